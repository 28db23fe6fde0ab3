/- Texts of this claim, part 14: contracts of the functions that the law reaches. -/
import Derived.Test.YtijohedhbbddjaaZ12
import Derived.Deep.RegionWith
namespace Go.Proofs.Ytijohedhbbddjaa
open Go.RowKit

set_option maxRecDepth 100000 in
set_option maxHeartbeats 1000000 in
theorem equalQ_any (w : World) (v v' : Value) (xs ys : List Int) (h : QS w v xs) (h' : QS w v' ys) (hl : xs.length ≤ 9223372036854775807) (hl' : ys.length ≤ 9223372036854775807) :
    Calls Try.prog 79 #[v, v'] w fun e w' => e = .returned (.bool (decide (xs = ys))) ∧ Below w.heap.size w w' := by
  obtain ⟨ao, cap, hv, -⟩ := id h
  obtain ⟨bo, cap', hv', -⟩ := id h'
  subst hv
  subst hv'
  have HQ := Lib.hid h
  have HQ' := Lib.hid h'
  clear h h'
  by_cases hlen : (xs.length : Int) = ys.length
  · have HL : Hid (xs.length = ys.length) := by show _ = _; omega
    have h3 : ((xs.length : Int) != (ys.length : Int)) = false := by simpa using hlen
    clear hlen
    go_enter Try.func79, Try.ntmps79
    go_wp2_with fail
    go_loopg [13] xs.length (fun n kv wr => ∃ k : Nat, k ≤ xs.length ∧ n = xs.length - k ∧ kv = .int .i64 k ∧ xs.take k = ys.take k ∧ Below w.heap.size w wr)
    case atStart => exact ⟨0, by omega, by omega, rfl, by simp, Below.refl _ _⟩
    case round =>
      obtain ⟨k, hk, rfl, rfl, ha, hbr⟩ := hrel
      have HN := Lib.hid ha
      have HBR := Lib.hid hbr
      clear ha hbr
      by_cases hlt : k < xs.length
      · have hlt' : k < ys.length := by rw [← HL.out]; exact hlt
        obtain ⟨b, off, rfl, hc⟩ := qs_cell HQ.out hlt
        obtain ⟨b', off', rfl, hc'⟩ := qs_cell HQ'.out hlt'
        have hc := cell_later HBR.out hc
        have hc' := cell_later HBR.out hc'
        obtain ⟨x, hx⟩ : ∃ x, xs[k] = x := ⟨_, rfl⟩
        obtain ⟨y, hy⟩ : ∃ y, ys[k] = y := ⟨_, rfl⟩
        have HX := Lib.hid hx
        have HY := Lib.hid hy
        rw [hx] at hc
        rw [hy] at hc'
        clear hx hy
        have hk0 : (0 : Int) ≤ (k : Int) := by omega
        have hk1 : (k : Int) < (xs.length : Int) := by omega
        have hk2 : (k : Int) < (ys.length : Int) := by omega
        go_wp2_with fail
        go_quiet (fail)
        go_wp2_with fail
        · go_ret
          have h6 : ¬ x = y := by simpa using ‹(x != y) = true›
          refine ⟨retB ?_, below_drewN' HBR.out _⟩
          rw [decide_eq_false]
          rintro rfl
          exact h6 (HX.out.symm.trans HY.out)
        · have h6 : x = y := by simpa using ‹(x != y) = false›
          go_roundg (xs.length - (k + 1))
          case measure => omega
          case rel => exact ⟨k + 1, by omega, rfl, by go_num, by rw [List.take_succ_eq_append_getElem hlt, List.take_succ_eq_append_getElem hlt', HN.out, HX.out, HY.out, h6], below_drewN' HBR.out _⟩
      · have hkl : k = xs.length := by omega
        subst hkl
        go_wp2_with fail
        go_ret
        refine ⟨retB ?_, HBR.out⟩
        have := HN.out
        rw [List.take_length, HL.out, List.take_length] at this
        rw [decide_eq_true this]
  · have h3 : ((xs.length : Int) != (ys.length : Int)) = true := by simpa using hlen
    have HN := Lib.hid hlen
    clear hlen
    go_enter Try.func79, Try.ntmps79
    go_wp2_with fail
    go_ret
    refine ⟨retB ?_, Below.refl _ _⟩
    rw [decide_eq_false]
    rintro rfl
    exact HN.out rfl

set_option maxRecDepth 100000 in
set_option maxHeartbeats 1000000 in
theorem msame_any (w : World) (r c r' c' : Int) (v v' : Value) (xs ys : List Int) (h : QS w v xs) (h' : QS w v' ys) (hl : xs.length ≤ 9223372036854775807) (hl' : ys.length ≤ 9223372036854775807) :
    Calls Try.prog 22 #[.agg #[.int .i64 r, .int .i64 c, v], .agg #[.int .i64 r', .int .i64 c', v']] w fun e w' => e = .returned (.bool (sameB r c xs r' c' ys)) ∧ Below w.heap.size w w' := by
  obtain ⟨ao, cap, hv, -⟩ := id h
  obtain ⟨bo, cap', hv', -⟩ := id h'
  subst hv
  subst hv'
  have H := Lib.hid h
  have H' := Lib.hid h'
  clear h h'
  by_cases hall : r = r' ∧ c = c'
  · obtain ⟨rfl, rfl⟩ := hall
    go_enter Try.func22, Try.ntmps22
    go_wp2_with fail
    obtain ⟨W0, hW0⟩ : ∃ W0, W0 = (w.alloc (.cells #[.int .i64 r, .int .i64 c, .slice ao xs.length cap] 24)).alloc (.cells #[.int .i64 r, .int .i64 c, .slice bo ys.length cap'] 24) := ⟨_, rfl⟩
    rw [← hW0]
    have r0 := cells_later (w := W0) (a := ⟨w.heap.size, 0, none⟩) (v := .int .i64 r) (by rw [hW0]; simp [go_sem])
    have r1 := cells_later (w := W0) (a := ⟨w.heap.size, 1, none⟩) (v := .int .i64 c) (by rw [hW0]; simp [go_sem])
    have r2 := cells_later (w := W0) (a := ⟨w.heap.size, 2, none⟩) (v := .slice ao xs.length cap) (by rw [hW0]; simp [go_sem])
    have s0 := cells_later (w := W0) (a := ⟨w.heap.size + 1, 0, none⟩) (v := .int .i64 r) (by rw [hW0]; simp [go_sem])
    have s1 := cells_later (w := W0) (a := ⟨w.heap.size + 1, 1, none⟩) (v := .int .i64 c) (by rw [hW0]; simp [go_sem])
    have s2 := cells_later (w := W0) (a := ⟨w.heap.size + 1, 2, none⟩) (v := .slice bo ys.length cap') (by rw [hW0]; simp [go_sem])
    have HQ : Hid (QS W0 (.slice ao xs.length cap) xs) := by rw [hW0]; exact H.out.later (below2 _ _ _)
    have HQ' : Hid (QS W0 (.slice bo ys.length cap') ys) := by rw [hW0]; exact H'.out.later (below2 _ _ _)
    have HB : Hid (Below w.heap.size w W0) := by rw [hW0]; exact below2 _ _ _
    clear hW0
    first | (go_region_held3 (fun w' => Below W0.heap.size W0 w') (first | assumption | exact below_drew _ | exact below_tr (by assumption) (by assumption) | exact below_tr2 (by assumption) (by assumption)) (first | (go_at_call 70; refine (of_any _ _ _ _).mono ?_; rintro e w1 ⟨rfl, hb1⟩) | (go_at_call 79; refine (equalQ_any _ _ _ xs ys (HQ.out.later (by first | assumption | exact below_drew _ | exact below_tr (by assumption) (by assumption) | exact below_tr2 (by assumption) (by assumption))) (HQ'.out.later (by first | assumption | exact below_drew _ | exact below_tr (by assumption) (by assumption) | exact below_tr2 (by assumption) (by assumption))) hl hl').mono ?_; rintro e w1 ⟨rfl, hb1⟩))) | fail
    have hb1 : Below W0.heap.size W0 w1 := by assumption
    go_wp2_with fail
    go_ret
    exact ⟨retB (by unfold sameB; simp), below_trans2 HB.out hb1⟩
  · have HN := Lib.hid hall
    by_cases h1 : r = r'
    · subst h1
      have h3 : (c == c') = false := by simpa using fun e => hall ⟨rfl, e⟩
      clear hall
      go_enter Try.func22, Try.ntmps22
      go_wp2_with fail
      obtain ⟨W0, hW0⟩ : ∃ W0, W0 = (w.alloc (.cells #[.int .i64 r, .int .i64 c, .slice ao xs.length cap] 24)).alloc (.cells #[.int .i64 r, .int .i64 c', .slice bo ys.length cap'] 24) := ⟨_, rfl⟩
      rw [← hW0]
      have r0 := cells_later (w := W0) (a := ⟨w.heap.size, 0, none⟩) (v := .int .i64 r) (by rw [hW0]; simp [go_sem])
      have r1 := cells_later (w := W0) (a := ⟨w.heap.size, 1, none⟩) (v := .int .i64 c) (by rw [hW0]; simp [go_sem])
      have r2 := cells_later (w := W0) (a := ⟨w.heap.size, 2, none⟩) (v := .slice ao xs.length cap) (by rw [hW0]; simp [go_sem])
      have s0 := cells_later (w := W0) (a := ⟨w.heap.size + 1, 0, none⟩) (v := .int .i64 r) (by rw [hW0]; simp [go_sem])
      have s1 := cells_later (w := W0) (a := ⟨w.heap.size + 1, 1, none⟩) (v := .int .i64 c') (by rw [hW0]; simp [go_sem])
      have s2 := cells_later (w := W0) (a := ⟨w.heap.size + 1, 2, none⟩) (v := .slice bo ys.length cap') (by rw [hW0]; simp [go_sem])
      have HQ : Hid (QS W0 (.slice ao xs.length cap) xs) := by rw [hW0]; exact H.out.later (below2 _ _ _)
      have HQ' : Hid (QS W0 (.slice bo ys.length cap') ys) := by rw [hW0]; exact H'.out.later (below2 _ _ _)
      have HB : Hid (Below w.heap.size w W0) := by rw [hW0]; exact below2 _ _ _
      clear hW0
      have hb0 := Below.refl W0.heap.size W0
      first | (go_region_with (first | (go_at_call 70; refine (of_any _ _ _ _).mono ?_; rintro e w1 ⟨rfl, hb1⟩; have hb1 : Below W0.heap.size W0 w1 := by first | exact below_trans2 (below_drew _) hb1 | exact below_tr2 hb1 (by assumption)))) | fail
      all_goals
        go_wp2_with fail
        go_ret
        exact ⟨retB (by unfold sameB; rw [decide_eq_false]; rintro ⟨h1, h2, -⟩; exact HN.out (by simp [h1, h2])), below_trans2 HB.out (by assumption)⟩
    · have h3 : (r == r') = false := by simpa using h1
      clear hall h1
      go_enter Try.func22, Try.ntmps22
      go_wp2_with fail
      obtain ⟨W0, hW0⟩ : ∃ W0, W0 = (w.alloc (.cells #[.int .i64 r, .int .i64 c, .slice ao xs.length cap] 24)).alloc (.cells #[.int .i64 r', .int .i64 c', .slice bo ys.length cap'] 24) := ⟨_, rfl⟩
      rw [← hW0]
      have r0 := cells_later (w := W0) (a := ⟨w.heap.size, 0, none⟩) (v := .int .i64 r) (by rw [hW0]; simp [go_sem])
      have r1 := cells_later (w := W0) (a := ⟨w.heap.size, 1, none⟩) (v := .int .i64 c) (by rw [hW0]; simp [go_sem])
      have r2 := cells_later (w := W0) (a := ⟨w.heap.size, 2, none⟩) (v := .slice ao xs.length cap) (by rw [hW0]; simp [go_sem])
      have s0 := cells_later (w := W0) (a := ⟨w.heap.size + 1, 0, none⟩) (v := .int .i64 r') (by rw [hW0]; simp [go_sem])
      have s1 := cells_later (w := W0) (a := ⟨w.heap.size + 1, 1, none⟩) (v := .int .i64 c') (by rw [hW0]; simp [go_sem])
      have s2 := cells_later (w := W0) (a := ⟨w.heap.size + 1, 2, none⟩) (v := .slice bo ys.length cap') (by rw [hW0]; simp [go_sem])
      have HQ : Hid (QS W0 (.slice ao xs.length cap) xs) := by rw [hW0]; exact H.out.later (below2 _ _ _)
      have HQ' : Hid (QS W0 (.slice bo ys.length cap') ys) := by rw [hW0]; exact H'.out.later (below2 _ _ _)
      have HB : Hid (Below w.heap.size w W0) := by rw [hW0]; exact below2 _ _ _
      clear hW0
      have hb0 := Below.refl W0.heap.size W0
      first | (go_region_with (first | (go_at_call 70; refine (of_any _ _ _ _).mono ?_; rintro e w1 ⟨rfl, hb1⟩; have hb1 : Below W0.heap.size W0 w1 := by first | exact below_trans2 (below_drew _) hb1 | exact below_tr2 hb1 (by assumption)))) | fail
      all_goals
        go_wp2_with fail
        go_ret
        exact ⟨retB (by unfold sameB; rw [decide_eq_false]; rintro ⟨h1, h2, -⟩; exact HN.out (by simp [h1, h2])), below_trans2 HB.out (by assumption)⟩

end Go.Proofs.Ytijohedhbbddjaa

namespace Go.Proofs.Ytijohedhbbddjaa
open Go.RowKit

structure MRes where
  r : Int
  c : Int
  xs : List Int
  odd : Bool
  err : Int
def opR (g : Int → Int → Int) (o : Int → Int → Bool) (r c r' c' : Nat) (xs ys : List Int) : MRes := if r = r' ∧ c = c' then ⟨r, c, eachL g xs ys r c, eachO o xs ys r c, 0⟩ else ⟨0, 0, [], false, 9⟩
def mulR (r m m' c : Nat) (xs ys : List Int) : MRes := if m = m' then ⟨r, c, mulL xs ys r m c, mulLO xs ys r m c, 0⟩ else ⟨0, 0, [], false, 9⟩

/-- A matrix, an oddness and an error number are handed back. -/
def Gives (p : MRes) (w : World) (e : Ending) (w' : World) : Prop :=
  ∃ ao cap, e = .returned (.tuple #[.agg #[.int .i64 p.r, .int .i64 p.c, .slice ao p.xs.length cap], .bool p.odd, .int .i64 p.err]) ∧ QS w' (.slice ao p.xs.length cap) p.xs ∧ Below w.heap.size w w'
theorem gives_of {r c n : Nat} {xs : List Int} {odd : Bool} {err : Int} {w w' : World} {e : Ending} (h : ∃ ao cap, e = .returned (.tuple #[.agg #[.int .i64 r, .int .i64 c, .slice ao n cap], .bool odd, .int .i64 err]) ∧ w'.ownsRow w.heap.size 25 1 (.slice ao n cap) n (xs.map (Value.int .i64)) ∧ Below w.heap.size w w') :
    Gives ⟨r, c, xs, odd, err⟩ w e w' := by
  obtain ⟨ao, cap, rfl, ho, hb⟩ := h
  have hl : xs.length = n := by have := ho.1; simpa using this
  have hq := QS.of_owns ho
  subst hl
  exact ⟨ao, cap, rfl, hq, hb⟩
theorem gives_no {w w' : World} {e : Ending} (h : e = .returned (.tuple #[.agg #[.int .i64 0, .int .i64 0, .slice none 0 0], .bool false, .int .i64 9]) ∧ Below w.heap.size w w') : Gives ⟨0, 0, [], false, 9⟩ w e w' := by
  obtain ⟨rfl, hb⟩ := h
  exact ⟨none, 0, rfl, ⟨none, 0, rfl, Nat.le_refl _, fun i x hi => by simp at hi⟩, hb⟩
theorem sameB_self (r c : Int) (xs : List Int) : sameB r c xs r c xs = true := by simp [sameB]

section
variable (w : World) (r c r' c' : Nat) (v v' : Value) (xs ys : List Int) (h : MV w r c v xs) (h' : MV w r' c' v' ys)

include h h' in
theorem madd_all : Calls Try.prog 16 #[.agg #[.int .i64 r, .int .i64 c, v], .agg #[.int .i64 r', .int .i64 c', v']] w (Gives (opR addQ addO r c r' c' xs ys) w) := by
  unfold opR
  split
  · rename_i hs
    obtain ⟨rfl, rfl⟩ := hs
    exact (madd_any w r c v v' xs ys h h').mono fun e w' hr => gives_of hr
  · rename_i hs
    obtain ⟨ao, cap, rfl, -⟩ := h.qs
    obtain ⟨bo, bcap, rfl, -⟩ := h'.qs
    exact (madd_no w r c r' c' ao bo _ _ cap bcap (fun he => hs ⟨by omega, by omega⟩)).mono fun e w' hr => gives_no hr

include h h' in
theorem msub_all : Calls Try.prog 18 #[.agg #[.int .i64 r, .int .i64 c, v], .agg #[.int .i64 r', .int .i64 c', v']] w (Gives (opR subQ subO r c r' c' xs ys) w) := by
  unfold opR
  split
  · rename_i hs
    obtain ⟨rfl, rfl⟩ := hs
    exact (msub_any w r c v v' xs ys h h').mono fun e w' hr => gives_of hr
  · rename_i hs
    obtain ⟨ao, cap, rfl, -⟩ := h.qs
    obtain ⟨bo, bcap, rfl, -⟩ := h'.qs
    exact (msub_no w r c r' c' ao bo _ _ cap bcap (fun he => hs ⟨by omega, by omega⟩)).mono fun e w' hr => gives_no hr

include h h' in
theorem radd3_all : Calls Try.prog 17 #[.agg #[.int .i64 r, .int .i64 c, v], .agg #[.int .i64 r', .int .i64 c', v']] w (Gives (opR addQ addO r c r' c' xs ys) w) := by
  unfold opR
  split
  · rename_i hs
    obtain ⟨rfl, rfl⟩ := hs
    exact (radd3_any w r c v v' xs ys h h').mono fun e w' hr => gives_of hr
  · rename_i hs
    obtain ⟨ao, cap, rfl, -⟩ := h.qs
    obtain ⟨bo, bcap, rfl, -⟩ := h'.qs
    exact (radd3_no w r c r' c' ao bo _ _ cap bcap (fun he => hs ⟨by omega, by omega⟩)).mono fun e w' hr => gives_no hr

include h h' in
theorem rsub3_all : Calls Try.prog 19 #[.agg #[.int .i64 r, .int .i64 c, v], .agg #[.int .i64 r', .int .i64 c', v']] w (Gives (opR subQ subO r c r' c' xs ys) w) := by
  unfold opR
  split
  · rename_i hs
    obtain ⟨rfl, rfl⟩ := hs
    exact (rsub3_any w r c v v' xs ys h h').mono fun e w' hr => gives_of hr
  · rename_i hs
    obtain ⟨ao, cap, rfl, -⟩ := h.qs
    obtain ⟨bo, bcap, rfl, -⟩ := h'.qs
    exact (rsub3_no w r c r' c' ao bo _ _ cap bcap (fun he => hs ⟨by omega, by omega⟩)).mono fun e w' hr => gives_no hr

include h h' in
theorem mmul_all : Calls Try.prog 20 #[.agg #[.int .i64 r, .int .i64 c, v], .agg #[.int .i64 r', .int .i64 c', v']] w (Gives (mulR r c r' c' xs ys) w) := by
  unfold mulR
  split
  · rename_i hs
    subst hs
    exact (mmul_any w r c c' v v' xs ys h h').mono fun e w' hr => gives_of hr
  · rename_i hs
    exact (mmul_no w r c r' c' v v' (fun he => hs (by omega))).mono fun e w' hr => gives_no hr

include h h' in
theorem rmul3_all : Calls Try.prog 21 #[.agg #[.int .i64 r, .int .i64 c, v], .agg #[.int .i64 r', .int .i64 c', v']] w (Gives (mulR r c r' c' xs ys) w) := by
  unfold mulR
  split
  · rename_i hs
    subst hs
    exact (rmul3_any w r c c' v v' xs ys h h').mono fun e w' hr => gives_of hr
  · rename_i hs
    exact (rmul3_no w r c r' c' v v' (fun he => hs (by omega))).mono fun e w' hr => gives_no hr

end

end Go.Proofs.Ytijohedhbbddjaa

namespace Go.Proofs.Ytijohedhbbddjaa
open Go.RowKit

theorem scaleL_rowF (xs : List Int) (q : Int) (r c : Nat) : tab (fun i k => mulQ (xs.getD (i * c + k) 0) q) c (r * c) = rowF (fun j => mulQ (xs.getD j 0) q) (r * c) := by
  rw [tab_rowF]
  exact rowF_ext fun j _ => by simp only [Nat.div_add_mod']
theorem scaleO_anyF (xs : List Int) (q : Int) (r c : Nat) : tabO (fun i k => mulO (xs.getD (i * c + k) 0) q) c (r * c) = (List.range (r * c)).any fun j => mulO (xs.getD j 0) q := by
  unfold tabO
  simp only [Nat.div_add_mod']

set_option maxRecDepth 100000 in
set_option maxHeartbeats 1000000 in
theorem rscale3_any (w : World) (r c : Nat) (v : Value) (xs : List Int) (z : Int) (h : MV w r c v xs) :
    Calls Try.prog 33 #[.agg #[.int .i64 r, .int .i64 c, v], .int .i64 z] w fun e w' =>
      ∃ ao cap, e = .returned (.tuple #[.agg #[.int .i64 r, .int .i64 c, .slice ao (r * c) cap], .bool (tabO (fun i k => mulO (xs.getD (i * c + k) 0) z) c (r * c))]) ∧
        w'.ownsRow w.heap.size 25 1 (.slice ao (r * c) cap) (r * c) ((tab (fun i k => mulQ (xs.getD (i * c + k) 0) z) c (r * c)).map (Value.int .i64)) ∧ Below w.heap.size w w' := by
  obtain ⟨ao, cap, hv, -⟩ := id h.qs
  subst hv
  have hl := h.len
  have hr := h.hr
  have hc := h.hc
  have h64 : xs.length ≤ 64 := by rw [hl]; exact mat_len hr hc
  have H := Lib.hid h.qs
  rw [scaleL_rowF, scaleO_anyF, ← hl]
  have HL := Lib.hid hl
  clear h hl
  go_enter Try.func33, Try.ntmps33
  go_upto_region 1 with fail
  obtain ⟨W0, hW0⟩ : ∃ W0, W0 = (w.alloc (.cells #[.int .i64 r, .int .i64 c, .slice ao xs.length cap] 24)).alloc (.cells #[.int .i64 0, .int .i64 0, .slice none 0 0] 24) := ⟨_, rfl⟩
  rw [← hW0]
  have r0 := cells_later (w := W0) (a := ⟨w.heap.size, 0, none⟩) (v := .int .i64 r) (by rw [hW0]; simp [go_sem])
  have r1 := cells_later (w := W0) (a := ⟨w.heap.size, 1, none⟩) (v := .int .i64 c) (by rw [hW0]; simp [go_sem])
  have r2 := cells_later (w := W0) (a := ⟨w.heap.size, 2, none⟩) (v := .slice ao xs.length cap) (by rw [hW0]; simp [go_sem])
  have HQ : Hid (QS W0 (.slice ao xs.length cap) xs) := by rw [hW0]; exact H.out.later (below2 _ _ _)
  have HR : Hid (W0.heap[w.heap.size + 1]? = some (.cells #[.int .i64 0, .int .i64 0, .slice none 0 0] 24 (0, 0))) := by rw [hW0]; exact heap_at _ _ _ (by simp)
  have HBw : Hid (Below w.heap.size w W0) := by rw [hW0]; exact below2 _ _ _
  have hsz : w.heap.size + 1 < W0.heap.size := by rw [hW0]; simp
  clear hW0
  have HB0 := Below.refl W0.heap.size W0
  have q0 := r0 _ HB0
  have q1 := r1 _ HB0
  go_wp2_with (go_at_call 77; refine (none_any W0 r c hr hc).mono ?_; rintro e w1 ⟨ao1, cap1, rfl, hown1, hb1⟩)
  have hI := RowIn.of (r := r) (c := c) hb1 hown1
  obtain ⟨g, hg⟩ : ∃ g, g = w1.heap.size := ⟨_, rfl⟩
  obtain ⟨wr1, hwr1⟩ : ∃ wr, wr = w1.alloc (.cells #[.int .i64 r, .int .i64 c, .slice ao1 (r * c) cap1] 24) := ⟨_, rfl⟩
  rw [← hg, ← hwr1] at hI
  rw [← hg, ← hwr1]
  clear hown1 hb1 hg hwr1 q0 q1
  rw [← HL.out] at hI ⊢
  rw [← rowF_upto_zero (fun j => mulQ (xs.getD j 0) z)] at hI
  go_loopg [7, 8] xs.length (fun n od kv wr => ∃ k : Nat, k ≤ xs.length ∧ n = xs.length - k ∧ kv = .int .i64 k ∧ od = .bool ((List.range k).any fun j => mulO (xs.getD j 0) z) ∧ RowIn W0 wr g r c xs.length (.slice ao1 xs.length cap1) (rowF (upto (fun j => mulQ (xs.getD j 0) z) k) xs.length))
  case atStart => exact ⟨0, by omega, by omega, rfl, rfl, hI⟩
  case round =>
    clear hI
    obtain ⟨k, hk, rfl, rfl, rfl, hI⟩ := hrel
    have HI := Lib.hid hI
    have hkeep := hI.keep
    have r2 := r2 _ hkeep
    have m0 := cell_of_row _ _ 0 _ _ _ hI.m
    have m1 := cell_of_row _ _ 1 _ _ _ hI.m
    have m2 := cell_of_row _ _ 2 _ _ _ hI.m
    simp only [List.getElem?_toArray, List.getElem?_cons_succ, List.getElem?_cons_zero] at m0 m1 m2
    clear hI hkeep
    by_cases hlt : k < xs.length
    · have hq := HQ.out
      obtain ⟨b, off, rfl, hc1⟩ := qs_cell hq hlt
      have hc1 := cell_later HI.out.keep hc1
      obtain ⟨q, cap2, he, hcq, hfq, hset⟩ := HI.out.at hlt
      have HE := Lib.hid he
      injection he with he1 he2 he3
      subst he1
      subst he3
      have HS := Lib.hid hset
      have hx : xs.getD k 0 = xs[k] := by simp [hlt]
      have HX := Lib.hid hx
      obtain ⟨x, hxe⟩ : ∃ x, xs[k] = x := ⟨_, rfl⟩
      rw [hxe] at hc1 HX
      have hk0 : (0 : Int) ≤ (k : Int) := by omega
      have hk1 : (k : Int) < (xs.length : Int) := by omega
      obtain ⟨od, hod⟩ : ∃ od, (List.range k).any (fun j => mulO (xs.getD j 0) z) = od := ⟨_, rfl⟩
      have HOD := Lib.hid hod
      rw [hod]
      clear hset hxe he2 hq hx hod
      go_wp2_with (go_at_call 14; refine (rmul_any _ _ _).mono ?_; rintro e w' ⟨rfl, rfl⟩)
      all_goals
        go_roundg (xs.length - (k + 1))
        case measure => omega
        case rel =>
          refine ⟨k + 1, by omega, rfl, by go_num, ?_, ?_⟩
          · simp only [List.range_succ, List.any_append, HOD.out, List.any_cons, List.any_nil, HX.out, Bool.or_false]
            first | (rw [‹od = true›]; rfl) | (rw [‹od = false›]; rfl)
          · have := HS.out _ (Below.refl _ _) (mulQ x z)
            rw [show mulQ x z = (fun j => mulQ (xs.getD j 0) z) k by show _ = mulQ _ _; rw [HX.out], rowF_upto_set] at this
            rw [show mulQ x z = (fun j => mulQ (xs.getD j 0) z) k by show _ = mulQ _ _; rw [HX.out]]
            exact this
    · have hkl : k = xs.length := by omega
      subst hkl
      have hR := block_later HR.out HI.out.keep
      have t0 := cell_of_row _ _ 0 _ _ _ hR
      have t1 := cell_of_row _ _ 1 _ _ _ hR
      have t2 := cell_of_row _ _ 2 _ _ _ hR
      simp only [List.getElem?_toArray, List.getElem?_cons_succ, List.getElem?_cons_zero] at t0 t1 t2
      have f0 := frozen_of_row _ _ 0 _ _ hR
      have f1 := frozen_of_row _ _ 1 _ _ hR
      have f2 := frozen_of_row _ _ 2 _ _ hR
      have hbk := HI.out.keep
      have hs1 := hbk.size
      have ho := HI.out.own
      rw [rowF_upto_all] at ho
      obtain ⟨od, hod⟩ : ∃ od, (List.range xs.length).any (fun j => mulO (xs.getD j 0) z) = od := ⟨_, rfl⟩
      have HOD := Lib.hid hod
      rw [hod]
      clear hod
      go_wp2_with fail
      refine bodyPost_ret (results_row1 rfl _ _ _ _ _ _ _ rfl (heap_store3 _ _ _ _ _ (.int .i64 r) (.int .i64 c) (.slice ao1 xs.length cap1) _ hR) Try.underlying24 rfl (by kernel_rfl)) rfl ⟨ao1, cap1, by rw [HOD.out]; rfl, ?_, ?_⟩
      · exact ownsRow_base (owns_set3 ho (by omega) _ _ _) (by omega)
      · exact below_set3 (below_tr2 hbk HBw.out) (by omega) _ _ _

end Go.Proofs.Ytijohedhbbddjaa

namespace Go.Proofs.Ytijohedhbbddjaa
open Go.RowKit

theorem RowIn.mcell {W0 wr : World} {g r c n : Nat} {row : Value} {ys : List Int} (h : RowIn W0 wr g r c n row ys) : wr.cell? ⟨g, 2, none⟩ = some row := by
  rw [cell_of_row _ _ _ _ _ _ h.m]; rfl

/-- A row that is filled column by column. -/
def trF (D : Nat → Int) (r i k : Nat) (n : Nat) : Int := if n % r < i ∨ (n % r = i ∧ n / r < k) then D n else 0
theorem trF_set (D : Nat → Int) {r i : Nat} (k p : Nat) (hi : i < r) : (rowF (trF D r i k) p).set (k * r + i) (D (k * r + i)) = rowF (trF D r i (k + 1)) p := by
  rw [rowF_set]
  refine rowF_ext fun j _ => ?_
  obtain ⟨h1, h2⟩ := div_mod_at (i := k) hi
  unfold trF
  by_cases e : j = k * r + i
  · subst e
    rw [h1, h2]
    simp
  · rw [if_neg e]
    have hne : ¬ (j % r = i ∧ j / r = k) := fun ⟨ha, hb⟩ => e (by have := Nat.div_add_mod' j r; rw [ha, hb] at this; exact this.symm)
    have : (j % r < i ∨ (j % r = i ∧ j / r < k)) ↔ (j % r < i ∨ (j % r = i ∧ j / r < k + 1)) := by
      constructor
      · rintro (h | ⟨h, h'⟩)
        · exact Or.inl h
        · exact Or.inr ⟨h, by omega⟩
      · rintro (h | ⟨h, h'⟩)
        · exact Or.inl h
        · refine Or.inr ⟨h, ?_⟩
          have : j / r ≠ k := fun h2 => hne ⟨h, h2⟩
          omega
    simp only [this]
theorem trF_next (D : Nat → Int) (r c i : Nat) : rowF (trF D r i c) (c * r) = rowF (trF D r (i + 1) 0) (c * r) := by
  refine rowF_ext fun j hj => ?_
  have hd : j / r < c := (Nat.div_lt_iff_lt_mul (Nat.pos_of_ne_zero (fun h => by subst h; simp at hj))).2 hj
  unfold trF
  have : (j % r < i ∨ (j % r = i ∧ j / r < c)) ↔ (j % r < i + 1 ∨ (j % r = i + 1 ∧ j / r < 0)) := by
    constructor
    · rintro (h | ⟨h, -⟩) <;> exact Or.inl (by omega)
    · rintro (h | ⟨-, h⟩)
      · by_cases h2 : j % r = i
        · exact Or.inr ⟨h2, hd⟩
        · exact Or.inl (by omega)
      · exact absurd h (Nat.not_lt_zero _)
  simp only [this]
theorem trF_zero (D : Nat → Int) (r p : Nat) : rowF (trF D r 0 0) p = List.replicate p (0 : Int) := by
  rw [rowF_zero]; exact rowF_ext fun j _ => by simp [trF]
theorem trF_all (D : Nat → Int) (r c : Nat) : rowF (trF D r r 0) (c * r) = rowF D (c * r) := rowF_ext fun j hj => by
  have : j % r < r := Nat.mod_lt _ (Nat.pos_of_ne_zero (fun h => by subst h; simp at hj))
  simp [trF, this]

set_option maxRecDepth 100000 in
set_option maxHeartbeats 2000000 in
theorem rtrans3_any (w : World) (r c : Nat) (v : Value) (xs : List Int) (h : MV w r c v xs) :
    Calls Try.prog 37 #[.agg #[.int .i64 r, .int .i64 c, v]] w fun e w' =>
      ∃ ao cap, e = .returned (.agg #[.int .i64 c, .int .i64 r, .slice ao (c * r) cap]) ∧
        w'.ownsRow w.heap.size 25 1 (.slice ao (c * r) cap) (c * r) ((tab (fun i k => xs.getD (k * c + i) 0) r (c * r)).map (Value.int .i64)) ∧ Below w.heap.size w w' := by
  obtain ⟨ao, cap, hv, -⟩ := id h.qs
  subst hv
  have hl := h.len
  have hr := h.hr
  have hc := h.hc
  have h64 : xs.length ≤ 64 := by rw [hl]; exact mat_len hr hc
  have hrc : c * r ≤ 64 := mat_len hc hr
  have H := Lib.hid h.qs
  have HL := Lib.hid hl
  have HRC := Lib.hid hrc
  clear h hl hrc
  obtain ⟨D, hD⟩ : ∃ D : Nat → Int, D = fun n => xs.getD (n % r * c + n / r) 0 := ⟨_, rfl⟩
  rw [show tab (fun i k => xs.getD (k * c + i) 0) r (c * r) = rowF D (c * r) by rw [hD]; rfl]
  have HD : Hid (∀ i k, i < r → D (k * r + i) = xs.getD (i * c + k) 0) := by
    intro i k hi
    rw [hD]
    show xs.getD _ 0 = _
    rw [(div_mod_at hi).1, (div_mod_at hi).2]
  clear hD
  go_enter Try.func37, Try.ntmps37
  go_upto_region 1 with fail
  obtain ⟨W0, hW0⟩ : ∃ W0, W0 = (w.alloc (.cells #[.int .i64 r, .int .i64 c, .slice ao xs.length cap] 24)).alloc (.cells #[.int .i64 0, .int .i64 0, .slice none 0 0] 24) := ⟨_, rfl⟩
  rw [← hW0]
  have r0 := cells_later (w := W0) (a := ⟨w.heap.size, 0, none⟩) (v := .int .i64 r) (by rw [hW0]; simp [go_sem])
  have r1 := cells_later (w := W0) (a := ⟨w.heap.size, 1, none⟩) (v := .int .i64 c) (by rw [hW0]; simp [go_sem])
  have r2 := cells_later (w := W0) (a := ⟨w.heap.size, 2, none⟩) (v := .slice ao xs.length cap) (by rw [hW0]; simp [go_sem])
  have HQ : Hid (QS W0 (.slice ao xs.length cap) xs) := by rw [hW0]; exact H.out.later (below2 _ _ _)
  have HR : Hid (W0.heap[w.heap.size + 1]? = some (.cells #[.int .i64 0, .int .i64 0, .slice none 0 0] 24 (0, 0))) := by rw [hW0]; exact heap_at _ _ _ (by simp)
  have HBw : Hid (Below w.heap.size w W0) := by rw [hW0]; exact below2 _ _ _
  have hsz : w.heap.size + 1 < W0.heap.size := by rw [hW0]; simp
  clear hW0
  have HB0 := Below.refl W0.heap.size W0
  have q0 := r0 _ HB0
  have q1 := r1 _ HB0
  go_wp2_with (go_at_call 77; refine (none_any W0 c r hc hr).mono ?_; rintro e w1 ⟨ao1, cap1, rfl, hown1, hb1⟩)
  have hI := RowIn.of (r := c) (c := r) hb1 hown1
  obtain ⟨g, hg⟩ : ∃ g, g = w1.heap.size := ⟨_, rfl⟩
  obtain ⟨wr1, hwr1⟩ : ∃ wr, wr = w1.alloc (.cells #[.int .i64 c, .int .i64 r, .slice ao1 (c * r) cap1] 24) := ⟨_, rfl⟩
  rw [← hg, ← hwr1] at hI
  rw [← hg, ← hwr1]
  clear hown1 hb1 hg hwr1 q0 q1
  obtain ⟨p, hp⟩ : ∃ p, c * r = p := ⟨_, rfl⟩
  have HP := Lib.hid hp
  rw [hp] at hI ⊢
  rw [← trF_zero D r] at hI
  have hp64 : p ≤ 64 := by rw [← hp]; exact HRC.out
  clear hp
  go_loopg [4] r (fun n iv wr => ∃ i : Nat, i ≤ r ∧ n = r - i ∧ iv = .int .i64 i ∧ RowIn W0 wr g c r p (.slice ao1 p cap1) (rowF (trF D r i 0) p))
  case atStart => exact ⟨0, by omega, by omega, rfl, hI⟩
  case round =>
    clear hI
    obtain ⟨i, hi, rfl, rfl, hI⟩ := hrel
    have HI := Lib.hid hI
    have hkeep := hI.keep
    have k0 := r0 _ hkeep
    clear hI hkeep
    by_cases hlti : i < r
    · go_wp2_with fail
      go_loopg [5] c (fun n kv wr => ∃ k : Nat, k ≤ c ∧ n = c - k ∧ kv = .int .i64 k ∧ RowIn W0 wr g c r p (.slice ao1 p cap1) (rowF (trF D r i k) p))
      case atStart => exact ⟨0, by omega, by omega, rfl, HI.out⟩
      case round =>
        clear HI k0
        obtain ⟨k, hk, rfl, rfl, hI⟩ := hrel
        have HI := Lib.hid hI
        have hkeep := hI.keep
        have k1 := r1 _ hkeep
        clear hI
        by_cases hltk : k < c
        · obtain ⟨C0, hC0⟩ : ∃ C0 : Nat, C0 = k * r := ⟨_, rfl⟩
          obtain ⟨A0, hA0⟩ : ∃ A0 : Nat, A0 = i * c := ⟨_, rfl⟩
          have hN : C0 + i < p := by rw [hC0, ← HP.out]; exact idx_lt hltk hlti
          have hA : A0 + k < xs.length := by rw [hA0, HL.out]; exact idx_lt hlti hltk
          have eC : (k : Int) * (r : Int) = (C0 : Int) := by rw [hC0]; simp
          have eA0 : (i : Int) * (c : Int) = (A0 : Int) := by rw [hA0]; simp
          have hd : D (C0 + i) = xs.getD (A0 + k) 0 := by rw [hC0, hA0]; exact HD.out i k hlti
          obtain ⟨N, hNe⟩ : ∃ N, N = C0 + i := ⟨_, rfl⟩
          obtain ⟨A, hAe⟩ : ∃ A, A = A0 + k := ⟨_, rfl⟩
          have eN : (C0 : Int) + (i : Int) = (N : Int) := by rw [hNe]; simp
          have eA : (A0 : Int) + (k : Int) = (A : Int) := by rw [hAe]; simp
          have HNe : Hid (k * r + i = N) := by rw [hNe, hC0]; exact rfl
          rw [← hNe] at hN hd
          rw [← hAe] at hA hd
          obtain ⟨b, off, rfl, hc1⟩ := qs_cell HQ.out hA
          have r1' := r1
          have r2' := r2
          have hc1 := cells_later hc1
          have hx' : xs[A] = D N := by rw [hd]; simp [hA]
          rw [hx'] at hc1
          obtain ⟨q, cap2, he, hcq, hfq, hset⟩ := HI.out.at hN
          have hm2 := HI.out.mcell
          have HE := Lib.hid he
          injection he with he1 he2 he3
          subst he1
          subst he3
          have HS := Lib.hid hset
          have hA1 : (A : Int) < (xs.length : Int) := by omega
          have hN1 : (N : Int) < (p : Int) := by omega
          have hA2 : (A0 : Int) ≤ 64 := by omega
          have hC2 : (C0 : Int) ≤ 64 := by omega
          have hA3 : (0 : Int) ≤ (A : Int) := by omega
          have hN3 : (0 : Int) ≤ (N : Int) := by omega
          have wA0 := Lib.hid (IntWalk.i64_in (A0 : Int) (by omega))
          have wC0 := Lib.hid (IntWalk.i64_in (C0 : Int) (by omega))
          have wA := Lib.hid (IntWalk.i64_in (A : Int) (by omega))
          have wN := Lib.hid (IntWalk.i64_in (N : Int) (by omega))
          clear hset he2 hd hx' hC0 hA0 hAe hNe
          obtain ⟨d, hd⟩ : ∃ d, D N = d := ⟨_, rfl⟩
          have HDN := Lib.hid hd
          rw [hd] at hc1
          clear hd
          go_wp2_with fail
          have wA0 := wA0.out
          have wC0 := wC0.out
          have wA := wA.out
          have wN := wN.out
          go_region_held3 (fun w' => Below W0.heap.size W0 w' ∧ w'.cell? ⟨g, 2, none⟩ = some (.slice (some ⟨q, 0, none⟩) p cap1))
            (first | assumption | exact ⟨hkeep.drew, hm2⟩ | exact ⟨(HS.out _ (below_drew _) _).keep, (HS.out _ (below_drew _) _).mcell⟩)
            (fail)
          go_wp2_with fail
          go_roundg (c - (k + 1))
          case measure => omega
          case rel =>
            refine ⟨k + 1, by omega, rfl, by go_num, ?_⟩
            have := HS.out _ (below_drew _) d
            rw [← HDN.out, ← HNe.out, trF_set D k p hlti, HNe.out, HDN.out] at this
            exact this
        · have hkc : k = c := by omega
          subst hkc
          go_wp2_with fail
          go_roundg (r - (i + 1))
          case measure => omega
          case rel =>
            refine ⟨i + 1, by omega, rfl, by go_num, ?_⟩
            have := HI.out
            rw [← HP.out, trF_next, HP.out] at this
            exact this
    · have hir : i = r := by omega
      subst hir
      have hR := block_later HR.out HI.out.keep
      have t0 := cell_of_row _ _ 0 _ _ _ hR
      have t1 := cell_of_row _ _ 1 _ _ _ hR
      have t2 := cell_of_row _ _ 2 _ _ _ hR
      have m0 := cell_of_row _ _ 0 _ _ _ HI.out.m
      have m1 := cell_of_row _ _ 1 _ _ _ HI.out.m
      have m2 := cell_of_row _ _ 2 _ _ _ HI.out.m
      simp only [List.getElem?_toArray, List.getElem?_cons_succ, List.getElem?_cons_zero] at t0 t1 t2 m0 m1 m2
      have f0 := frozen_of_row _ _ 0 _ _ hR
      have f1 := frozen_of_row _ _ 1 _ _ hR
      have f2 := frozen_of_row _ _ 2 _ _ hR
      have hbk := HI.out.keep
      have hs1 := hbk.size
      have ho := HI.out.own
      have hp := HP.out
      rw [show rowF (trF D i i 0) p = rowF D p by rw [← hp]; exact trF_all _ _ _] at ho
      clear hp
      go_wp2_with fail
      refine bodyPost_ret (results_row rfl _ _ _ _ _ _ _ rfl (heap_store3 _ _ _ _ _ (.int .i64 c) (.int .i64 i) (.slice ao1 p cap1) _ hR) Try.underlying24 rfl (by kernel_rfl)) rfl ?_
      rw [← HP.out]
      rw [← HP.out] at ho
      refine ⟨ao1, cap1, rfl, ?_, ?_⟩
      · exact ownsRow_base (owns_set3 ho (by omega) _ _ _) (by omega)
      · exact below_set3 (below_tr2 hbk HBw.out) (by omega) _ _ _

end Go.Proofs.Ytijohedhbbddjaa

namespace Go.Proofs.Ytijohedhbbddjaa
open Go.RowKit

theorem transL_getD (xs : List Int) (n : Nat) {i k : Nat} (hi : i < n) (hk : k < n) : (transL xs n n).getD (i * n + k) 0 = xs.getD (k * n + i) 0 := by
  unfold transL
  rw [tab_rowF, rowF_getD _ (idx_lt hi hk)]
  show xs.getD _ 0 = _
  rw [(div_mod_at hk).1, (div_mod_at hk).2]

set_option maxRecDepth 100000 in
set_option maxHeartbeats 2000000 in
theorem reven3_any (w : World) (n : Nat) (v : Value) (xs : List Int) (h : MV w n n v xs) (hq : InQ xs) :
    Calls Try.prog 35 #[.agg #[.int .i64 n, .int .i64 n, v]] w fun e w' =>
      ∃ ao cap, e = .returned (.tuple #[.agg #[.int .i64 n, .int .i64 n, .slice ao (n * n) cap], .bool false, .int .i64 0]) ∧
        w'.ownsRow w.heap.size 25 1 (.slice ao (n * n) cap) (n * n) ((eachL (fun x y => half1 (x + y)) xs (transL xs n n) n n).map (Value.int .i64)) ∧ Below w.heap.size w w' := by
  obtain ⟨ao, cap, hv, -⟩ := id h.qs
  subst hv
  have hl := h.len
  have hr := h.hr
  have h64 : xs.length ≤ 64 := by rw [hl]; exact mat_len hr hr
  have hrc : n * n ≤ 64 := mat_len hr hr
  have H := Lib.hid h.qs
  have HL := Lib.hid hl
  have HRC := Lib.hid hrc
  have HIQ := Lib.hid hq
  rw [eachL_rowF]
  clear h hl hrc hq
  obtain ⟨D, hD⟩ : ∃ D : Nat → Int, D = fun j => half1 (xs.getD j 0 + (transL xs n n).getD j 0) := ⟨_, rfl⟩
  rw [show (fun j => (fun x y => half1 (x + y)) (xs.getD j 0) ((transL xs n n).getD j 0)) = D from hD.symm]
  have HD : Hid (∀ i k, i < n → k < n → D (i * n + k) = half1 (xs.getD (i * n + k) 0 + xs.getD (k * n + i) 0)) := by
    intro i k hi hk
    rw [hD]
    show half1 (_ + _) = _
    rw [transL_getD xs n hi hk]
  clear hD
  go_enter Try.func35, Try.ntmps35
  go_upto_region 1 with fail
  obtain ⟨W0, hW0⟩ : ∃ W0, W0 = (w.alloc (.cells #[.int .i64 n, .int .i64 n, .slice ao xs.length cap] 24)).alloc (.cells #[.int .i64 0, .int .i64 0, .slice none 0 0] 24) := ⟨_, rfl⟩
  rw [← hW0]
  have r0 := cells_later (w := W0) (a := ⟨w.heap.size, 0, none⟩) (v := .int .i64 n) (by rw [hW0]; simp [go_sem])
  have r1 := cells_later (w := W0) (a := ⟨w.heap.size, 1, none⟩) (v := .int .i64 n) (by rw [hW0]; simp [go_sem])
  have r2 := cells_later (w := W0) (a := ⟨w.heap.size, 2, none⟩) (v := .slice ao xs.length cap) (by rw [hW0]; simp [go_sem])
  have HQ : Hid (QS W0 (.slice ao xs.length cap) xs) := by rw [hW0]; exact H.out.later (below2 _ _ _)
  have HR : Hid (W0.heap[w.heap.size + 1]? = some (.cells #[.int .i64 0, .int .i64 0, .slice none 0 0] 24 (0, 0))) := by rw [hW0]; exact heap_at _ _ _ (by simp)
  have HBw : Hid (Below w.heap.size w W0) := by rw [hW0]; exact below2 _ _ _
  have hsz : w.heap.size + 1 < W0.heap.size := by rw [hW0]; simp
  clear hW0
  have HB0 := Below.refl W0.heap.size W0
  have q0 := r0 _ HB0
  have q1 := r1 _ HB0
  go_wp2_with (go_at_call 77; refine (none_any W0 n n hr hr).mono ?_; rintro e w1 ⟨ao1, cap1, rfl, hown1, hb1⟩)
  have hI := RowIn.of (r := n) (c := n) hb1 hown1
  obtain ⟨g, hg⟩ : ∃ g, g = w1.heap.size := ⟨_, rfl⟩
  obtain ⟨wr1, hwr1⟩ : ∃ wr, wr = w1.alloc (.cells #[.int .i64 n, .int .i64 n, .slice ao1 (n * n) cap1] 24) := ⟨_, rfl⟩
  rw [← hg, ← hwr1] at hI
  rw [← hg, ← hwr1]
  clear hown1 hb1 hg hwr1 q0 q1
  obtain ⟨p, hp⟩ : ∃ p, n * n = p := ⟨_, rfl⟩
  have HP := Lib.hid hp
  rw [hp] at hI ⊢
  rw [← rowF_upto_zero D] at hI
  have hp64 : p ≤ 64 := by rw [← hp]; exact HRC.out
  clear hp
  go_loopg [6] n (fun m iv wr => ∃ i : Nat, i ≤ n ∧ m = n - i ∧ iv = .int .i64 i ∧ RowIn W0 wr g n n p (.slice ao1 p cap1) (rowF (upto D (i * n)) p))
  case atStart => exact ⟨0, by omega, by omega, rfl, by simpa using hI⟩
  case round =>
    clear hI
    obtain ⟨i, hi, rfl, rfl, hI⟩ := hrel
    have HI := Lib.hid hI
    have hkeep := hI.keep
    have k0 := r0 _ hkeep
    clear hI hkeep
    by_cases hlti : i < n
    · go_wp2_with fail
      go_loopg [7] n (fun m kv wr => ∃ k : Nat, k ≤ n ∧ m = n - k ∧ kv = .int .i64 k ∧ RowIn W0 wr g n n p (.slice ao1 p cap1) (rowF (upto D (i * n + k)) p))
      case atStart => exact ⟨0, by omega, by omega, rfl, HI.out⟩
      case round =>
        clear HI k0
        obtain ⟨k, hk, rfl, rfl, hI⟩ := hrel
        have HI := Lib.hid hI
        have hkeep := hI.keep
        have k1 := r1 _ hkeep
        clear hI
        by_cases hltk : k < n
        · obtain ⟨A0, hA0⟩ : ∃ A0 : Nat, A0 = i * n := ⟨_, rfl⟩
          obtain ⟨C0, hC0⟩ : ∃ C0 : Nat, C0 = k * n := ⟨_, rfl⟩
          have hN : A0 + k < p := by rw [hA0, ← HP.out]; exact idx_lt hlti hltk
          have hA : A0 + k < xs.length := by rw [hA0, HL.out]; exact idx_lt hlti hltk
          have hB : C0 + i < xs.length := by rw [hC0, HL.out]; exact idx_lt hltk hlti
          have eC0 : (k : Int) * (n : Int) = (C0 : Int) := by rw [hC0]; simp
          have eA0 : (i : Int) * (n : Int) = (A0 : Int) := by rw [hA0]; simp
          have hd : D (A0 + k) = half1 (xs.getD (A0 + k) 0 + xs.getD (C0 + i) 0) := by rw [hC0, hA0]; exact HD.out i k hlti hltk
          obtain ⟨A, hAe⟩ : ∃ A, A = A0 + k := ⟨_, rfl⟩
          obtain ⟨B, hBe⟩ : ∃ B, B = C0 + i := ⟨_, rfl⟩
          have eA : (A0 : Int) + (k : Int) = (A : Int) := by rw [hAe]; simp
          have eB : (C0 : Int) + (i : Int) = (B : Int) := by rw [hBe]; simp
          have HNe : Hid (i * n + k = A) := by rw [hAe, hA0]; exact rfl
          rw [← hAe] at hN hd hA
          rw [← hBe] at hB hd
          obtain ⟨b, off, rfl, hc1⟩ := qs_cell HQ.out hA
          obtain ⟨b', off', he2, hc2⟩ := qs_cell HQ.out hB
          cases he2
          have hc1 := cells_later hc1
          have hc2 := cells_later hc2
          have hx := HIQ.out A
          have hy := HIQ.out B
          rw [show xs.getD A 0 = xs[A] by simp [hA]] at hd hx
          rw [show xs.getD B 0 = xs[B] by simp [hB]] at hd hy
          obtain ⟨x, hxe⟩ : ∃ x, xs[A] = x := ⟨_, rfl⟩
          obtain ⟨y, hye⟩ : ∃ y, xs[B] = y := ⟨_, rfl⟩
          rw [hxe] at hc1 hx hd
          rw [hye] at hc2 hy hd
          have hx1 := hx.1
          have hx2 := hx.2
          have hy1 := hy.1
          have hy2 := hy.2
          have HDN := Lib.hid hd
          obtain ⟨q, cap2, he, hcq, hfq, hset⟩ := HI.out.at hN
          have hm2 := HI.out.mcell
          have HE := Lib.hid he
          injection he with he1 he2 he3
          subst he1
          subst he3
          have HS := Lib.hid hset
          have hA1 : (A : Int) < (xs.length : Int) := by omega
          have hB1 : (B : Int) < (xs.length : Int) := by omega
          have hN1 : (A : Int) < (p : Int) := by omega
          have hA2 : (A0 : Int) ≤ 64 := by omega
          have hC2 : (C0 : Int) ≤ 64 := by omega
          have hA3 : (0 : Int) ≤ (A : Int) := by omega
          have hB3 : (0 : Int) ≤ (B : Int) := by omega
          have wA0 := Lib.hid (IntWalk.i64_in (A0 : Int) (by omega))
          have wC0 := Lib.hid (IntWalk.i64_in (C0 : Int) (by omega))
          have wA := Lib.hid (IntWalk.i64_in (A : Int) (by omega))
          have wB := Lib.hid (IntWalk.i64_in (B : Int) (by omega))
          have wS := Lib.hid (IntWalk.i64_in (x + y) (by omega))
          clear hset he2 hd hxe hye hC0 hA0 hAe hBe hx hy
          go_wp2_with fail
          have wA0 := wA0.out
          have wC0 := wC0.out
          have wA := wA.out
          have wB := wB.out
          have wS := wS.out
          go_region_held3 (fun w' => Below W0.heap.size W0 w' ∧ w'.cell? ⟨g, 2, none⟩ = some (.slice (some ⟨q, 0, none⟩) p cap1))
            (first | assumption | exact ⟨hkeep.drew, hm2⟩ | exact ⟨(HS.out _ (below_drew _) _).keep, (HS.out _ (below_drew _) _).mcell⟩)
            (first | (go_at_call 91; refine (rhalf1_any _ _ (by omega) (by omega)).mono ?_; rintro e w' ⟨rfl, rfl⟩))
          go_wp2_with fail
          go_roundg (n - (k + 1))
          case measure => omega
          case rel =>
            refine ⟨k + 1, by omega, rfl, by go_num, ?_⟩
            have := HS.out _ (below_drew _) (half1 (x + y))
            rw [← HDN.out, HNe.out, rowF_upto_set, HDN.out] at this
            rw [← Nat.add_assoc, HNe.out]
            exact this
        · have hkc : k = n := by omega
          subst hkc
          go_wp2_with fail
          go_roundg (k - (i + 1))
          case measure => omega
          case rel => exact ⟨i + 1, by omega, rfl, by go_num, by rw [Nat.add_mul, Nat.one_mul]; exact HI.out⟩
    · have hir : i = n := by omega
      subst hir
      have hR := block_later HR.out HI.out.keep
      have t0 := cell_of_row _ _ 0 _ _ _ hR
      have t1 := cell_of_row _ _ 1 _ _ _ hR
      have t2 := cell_of_row _ _ 2 _ _ _ hR
      have m0 := cell_of_row _ _ 0 _ _ _ HI.out.m
      have m1 := cell_of_row _ _ 1 _ _ _ HI.out.m
      have m2 := cell_of_row _ _ 2 _ _ _ HI.out.m
      simp only [List.getElem?_toArray, List.getElem?_cons_succ, List.getElem?_cons_zero] at t0 t1 t2 m0 m1 m2
      have f0 := frozen_of_row _ _ 0 _ _ hR
      have f1 := frozen_of_row _ _ 1 _ _ hR
      have f2 := frozen_of_row _ _ 2 _ _ hR
      have hbk := HI.out.keep
      have hs1 := hbk.size
      have ho := HI.out.own
      have hp := HP.out
      rw [show rowF (upto D (i * i)) p = rowF D p by rw [hp]; exact rowF_upto_all _ _] at ho
      clear hp
      go_wp2_with fail
      refine bodyPost_ret (results_row2 rfl _ _ _ _ _ _ _ rfl (heap_store3 _ _ _ _ _ (.int .i64 i) (.int .i64 i) (.slice ao1 p cap1) _ hR) Try.underlying24 rfl (by kernel_rfl)) rfl ?_
      rw [← HP.out]
      rw [← HP.out] at ho
      refine ⟨ao1, cap1, rfl, ?_, ?_⟩
      · exact ownsRow_base (owns_set3 ho (by omega) _ _ _) (by omega)
      · exact below_set3 (below_tr2 hbk HBw.out) (by omega) _ _ _

set_option maxRecDepth 100000 in
set_option maxHeartbeats 1000000 in
theorem reven3_no (w : World) (r c : Nat) (v : Value) (hne : r ≠ c) :
    Calls Try.prog 35 #[.agg #[.int .i64 r, .int .i64 c, v]] w fun e w' =>
      e = .returned (.tuple #[.agg #[.int .i64 0, .int .i64 0, .slice none 0 0], .bool false, .int .i64 9]) ∧ Below w.heap.size w w' := by
  have hne' : ((r : Int) != (c : Int)) = true := by simp; omega
  go_enter Try.func35, Try.ntmps35
  go_wp2_with fail
  refine bodyPost_ret (results_row2 rfl _ _ _ _ _ _ _ rfl (heap_at _ _ _ (by simp)) Try.underlying24 rfl (by kernel_rfl)) rfl ⟨rfl, below2 _ _ _⟩

end Go.Proofs.Ytijohedhbbddjaa

namespace Go.Proofs.Ytijohedhbbddjaa
open Go.RowKit

def dgU (xs : List Int) (n i j : Nat) : Int := if j / n = j % n ∧ j % n < i then xs.getD (j % n) 0 else 0
def dgL (xs : List Int) (n : Nat) : List Int := tab (fun i k => if i = k then xs.getD i 0 else 0) n (n * n)
theorem dgU_set (xs : List Int) {n i : Nat} (p : Nat) (hi : i < n) : (rowF (dgU xs n i) p).set (i * n + i) (xs.getD i 0) = rowF (dgU xs n (i + 1)) p := by
  rw [rowF_set]
  refine rowF_ext fun j _ => ?_
  obtain ⟨h1, h2⟩ := div_mod_at (i := i) hi
  unfold dgU
  by_cases e : j = i * n + i
  · subst e
    rw [h1, h2]
    simp
  · rw [if_neg e]
    have hne : ¬ (j / n = j % n ∧ j % n = i) := fun ⟨ha, hb⟩ => e (by have := Nat.div_add_mod' j n; rw [ha, hb] at this; exact this.symm)
    have : (j / n = j % n ∧ j % n < i) ↔ (j / n = j % n ∧ j % n < i + 1) := by
      constructor
      · rintro ⟨h, h'⟩; exact ⟨h, by omega⟩
      · rintro ⟨h, h'⟩
        have : j % n ≠ i := fun h2 => hne ⟨h, h2⟩
        exact ⟨h, by omega⟩
    simp only [this]
theorem dgU_zero (xs : List Int) (n p : Nat) : rowF (dgU xs n 0) p = List.replicate p (0 : Int) := by
  rw [rowF_zero]; exact rowF_ext fun j _ => by simp [dgU]
theorem dgU_all (xs : List Int) (n : Nat) : rowF (dgU xs n n) (n * n) = dgL xs n := by
  unfold dgL
  rw [tab_rowF]
  refine rowF_ext fun j hj => ?_
  have : j % n < n := Nat.mod_lt _ (Nat.pos_of_ne_zero (fun h => by subst h; simp at hj))
  unfold dgU
  by_cases h : j / n = j % n
  · rw [if_pos ⟨h, this⟩, if_pos h, h]
  · rw [if_neg (fun hh => h hh.1), if_neg h]

def diagR (xs : List Int) : MRes := if 1 ≤ xs.length ∧ xs.length ≤ 8 ∧ xs.any clo = false then ⟨xs.length, xs.length, dgL xs xs.length, false, 0⟩ else ⟨0, 0, [], false, 1⟩
/-- A matrix and an error number are handed back. -/
def Gives1 (p : MRes) (w : World) (e : Ending) (w' : World) : Prop :=
  ∃ ao cap, e = .returned (.tuple #[.agg #[.int .i64 p.r, .int .i64 p.c, .slice ao p.xs.length cap], .int .i64 p.err]) ∧ w'.ownsRow w.heap.size 25 1 (.slice ao p.xs.length cap) p.xs.length (p.xs.map (Value.int .i64)) ∧ Below w.heap.size w w'
theorem gives1_no (w w' : World) (h : Below w.heap.size w w') : Gives1 ⟨0, 0, [], false, 1⟩ w (.returned (.tuple #[.agg #[.int .i64 0, .int .i64 0, .slice none 0 0], .int .i64 1])) w' :=
  ⟨none, 0, rfl, World.ownsRow_nil _ _ _ _, h⟩

set_option maxRecDepth 100000 in
set_option maxHeartbeats 2000000 in
theorem rdiag3_any (w : World) (v : Value) (xs : List Int) (h : QS w v xs) (hl : xs.length ≤ 9223372036854775807) :
    Calls Try.prog 31 #[v] w (Gives1 (diagR xs) w) := by
  obtain ⟨ao, cap, hv, -⟩ := id h
  subst hv
  have H := Lib.hid h
  clear h
  by_cases hn : 1 ≤ xs.length ∧ xs.length ≤ 8
  · obtain ⟨hn1, hn8⟩ := hn
    have HY : Hid (xs.any clo = false → diagR xs = ⟨xs.length, xs.length, dgL xs xs.length, false, 0⟩) := fun h => if_pos ⟨hn1, hn8, h⟩
    have HN : Hid (xs.any clo = true → diagR xs = ⟨0, 0, [], false, 1⟩) := fun h => if_neg (fun hh => by rw [h] at hh; cases hh.2.2)
    have HP64 : Hid (xs.length * xs.length ≤ 64) := mat_len hn8 hn8
    obtain ⟨pr, hpr⟩ : ∃ p, diagR xs = p := ⟨_, rfl⟩
    rw [hpr] at HY HN ⊢
    clear hpr
    go_enter Try.func31, Try.ntmps31
    go_upto_region 2 with fail
    obtain ⟨W0, hW0⟩ : ∃ W0, W0 = w.alloc (.cells #[.int .i64 0, .int .i64 0, .slice none 0 0] 24) := ⟨_, rfl⟩
    rw [← hW0]
    have HQ : Hid (QS W0 (.slice ao xs.length cap) xs) := by rw [hW0]; exact H.out.later (below1 _ _)
    have HR : Hid (W0.heap[w.heap.size]? = some (.cells #[.int .i64 0, .int .i64 0, .slice none 0 0] 24 (0, 0))) := by rw [hW0]; exact heap_at _ _ _ rfl
    have HBw : Hid (Below w.heap.size w W0) := by rw [hW0]; exact below1 _ _
    have hsz : w.heap.size < W0.heap.size := by rw [hW0]; simp
    clear hW0
    go_wp2_with (go_at_call 77; refine (none_any W0 xs.length xs.length hn8 hn8).mono ?_; rintro e w1 ⟨ao1, cap1, rfl, hown1, hb1⟩)
    have hI := RowIn.of (r := xs.length) (c := xs.length) hb1 hown1
    obtain ⟨g, hg⟩ : ∃ g, g = w1.heap.size := ⟨_, rfl⟩
    obtain ⟨wr1, hwr1⟩ : ∃ wr, wr = w1.alloc (.cells #[.int .i64 xs.length, .int .i64 xs.length, .slice ao1 (xs.length * xs.length) cap1] 24) := ⟨_, rfl⟩
    rw [← hg, ← hwr1] at hI
    rw [← hg, ← hwr1]
    clear hown1 hb1 hg hwr1
    obtain ⟨p, hp⟩ : ∃ p, xs.length * xs.length = p := ⟨_, rfl⟩
    have HP := Lib.hid hp
    rw [hp] at hI ⊢
    rw [← dgU_zero xs xs.length] at hI
    have hp64 : p ≤ 64 := by rw [← hp]; exact HP64.out
    clear hp
    go_loopg [6] xs.length (fun m iv wr => ∃ i : Nat, i ≤ xs.length ∧ m = xs.length - i ∧ iv = .int .i64 i ∧ (xs.take i).any clo = false ∧ RowIn W0 wr g xs.length xs.length p (.slice ao1 p cap1) (rowF (dgU xs xs.length i) p))
    case atStart => exact ⟨0, by omega, by omega, rfl, by simp, hI⟩
    case round =>
      clear hI
      obtain ⟨i, hi, rfl, rfl, hcl, hI⟩ := hrel
      have HI := Lib.hid hI
      have HCl := Lib.hid hcl
      have hkeep := hI.keep
      clear hI hcl
      by_cases hlt : i < xs.length
      · obtain ⟨A0, hA0⟩ : ∃ A0 : Nat, A0 = i * xs.length := ⟨_, rfl⟩
        have hN : A0 + i < p := by rw [hA0, ← HP.out]; exact idx_lt hlt hlt
        have eA0 : (i : Int) * (xs.length : Int) = (A0 : Int) := by rw [hA0]; simp
        obtain ⟨A, hAe⟩ : ∃ A, A = A0 + i := ⟨_, rfl⟩
        have eA : (A0 : Int) + (i : Int) = (A : Int) := by rw [hAe]; simp
        have HNe : Hid (i * xs.length + i = A) := by rw [hAe, hA0]; exact rfl
        rw [← hAe] at hN
        obtain ⟨b, off, rfl, hc1⟩ := qs_cell HQ.out hlt
        have hc1 := cells_later hc1
        obtain ⟨x, hxe⟩ : ∃ x, xs[i] = x := ⟨_, rfl⟩
        have HX := Lib.hid hxe
        rw [hxe] at hc1
        obtain ⟨t, ht⟩ : ∃ t, clo x = t := ⟨_, rfl⟩
        have HT := Lib.hid ht
        have hin := rin_any x wr
        rw [ht] at hin
        obtain ⟨q, cap2, he, hcq, hfq, hset⟩ := HI.out.at hN
        have hm2 := HI.out.mcell
        have HE := Lib.hid he
        injection he with he1 he2 he3
        subst he1
        subst he3
        have HS := Lib.hid hset
        have hi1 : (i : Int) < (xs.length : Int) := by omega
        have hi0 : (0 : Int) ≤ (i : Int) := by omega
        have hN1 : (A : Int) < (p : Int) := by omega
        have hA2 : (A0 : Int) ≤ 64 := by omega
        have hA3 : (0 : Int) ≤ (A : Int) := by omega
        have wA0 := Lib.hid (IntWalk.i64_in (A0 : Int) (by omega))
        have wA := Lib.hid (IntWalk.i64_in (A : Int) (by omega))
        have hR := block_later HR.out hkeep
        have t0 := cell_of_row _ _ 0 _ _ _ hR
        have t1 := cell_of_row _ _ 1 _ _ _ hR
        have t2 := cell_of_row _ _ 2 _ _ _ hR
        simp only [List.getElem?_toArray, List.getElem?_cons_succ, List.getElem?_cons_zero] at t0 t1 t2
        have f0 := frozen_of_row _ _ 0 _ _ hR
        have f1 := frozen_of_row _ _ 1 _ _ hR
        have f2 := frozen_of_row _ _ 2 _ _ hR
        have HRR := Lib.hid hR
        clear hset he2 hxe ht hA0 hAe hR
        go_wp2_with (go_at_call 68; refine hin.mono ?_; rintro e w1 ⟨rfl, rfl⟩)
        · have h6 : t = true := by assumption
          have hany : xs.any clo = true := List.any_eq_true.2 ⟨xs[i], List.getElem_mem _, by rw [HX.out, HT.out, h6]⟩
          rw [HN.out hany]
          refine bodyPost_ret (results_row1 rfl _ _ _ _ _ _ _ rfl (heap_store3 _ _ _ _ _ (.int .i64 0) (.int .i64 0) (.slice none 0 0) _ HRR.out) Try.underlying24 rfl (by kernel_rfl)) rfl ?_
          exact gives1_no _ _ (below_set3 (below_tr2 hkeep HBw.out) (by omega) _ _ _)
        · have h6 : t = false := by assumption
          have wA0 := wA0.out
          have wA := wA.out
          go_region_held3 (fun w' => Below W0.heap.size W0 w' ∧ w'.cell? ⟨g, 2, none⟩ = some (.slice (some ⟨q, 0, none⟩) p cap1))
            (first | assumption | exact ⟨hkeep.drew, hm2⟩ | exact ⟨(HS.out _ (below_drew _) _).keep, (HS.out _ (below_drew _) _).mcell⟩)
            (fail)
          go_wp2_with fail
          go_roundg (xs.length - (i + 1))
          case measure => omega
          case rel =>
            refine ⟨i + 1, by omega, rfl, by go_num, by rw [any_take_succ hlt, HCl.out, HX.out, HT.out, h6]; rfl, ?_⟩
            have := HS.out _ (below_drew _) x
            rw [show x = xs.getD i 0 by rw [← HX.out]; simp [hlt], ← HNe.out, dgU_set xs p hlt, HNe.out] at this
            rw [show x = xs.getD i 0 by rw [← HX.out]; simp [hlt]]
            exact this
      · have hir : i = xs.length := by omega
        subst hir
        have hR := block_later HR.out HI.out.keep
        have t0 := cell_of_row _ _ 0 _ _ _ hR
        have t1 := cell_of_row _ _ 1 _ _ _ hR
        have t2 := cell_of_row _ _ 2 _ _ _ hR
        have m0 := cell_of_row _ _ 0 _ _ _ HI.out.m
        have m1 := cell_of_row _ _ 1 _ _ _ HI.out.m
        have m2 := cell_of_row _ _ 2 _ _ _ HI.out.m
        simp only [List.getElem?_toArray, List.getElem?_cons_succ, List.getElem?_cons_zero] at t0 t1 t2 m0 m1 m2
        have f0 := frozen_of_row _ _ 0 _ _ hR
        have f1 := frozen_of_row _ _ 1 _ _ hR
        have f2 := frozen_of_row _ _ 2 _ _ hR
        have ho := HI.out.own
        have hcl := HCl.out
        rw [List.take_length] at hcl
        have HYE := Lib.hid (HY.out hcl)
        have hp := HP.out
        rw [show rowF (dgU xs xs.length xs.length) p = dgL xs xs.length by rw [← hp]; exact dgU_all _ _] at ho
        have HL2 : Hid ((dgL xs xs.length).length = p) := by unfold dgL; rw [tab_length]; exact hp
        clear hp hcl
        go_wp2_with fail
        refine bodyPost_ret (results_row1 rfl _ _ _ _ _ _ _ rfl (heap_store3 _ _ _ _ _ (.int .i64 xs.length) (.int .i64 xs.length) (.slice ao1 p cap1) _ hR) Try.underlying24 rfl (by kernel_rfl)) rfl ?_
        have hq := ownsRow_base (owns_set3 ho hsz (.int .i64 xs.length) (.int .i64 xs.length) (.slice ao1 p cap1)) (base' := w.heap.size) (by omega)
        rw [HYE.out]
        refine ⟨ao1, cap1, by show _ = Ending.returned (.tuple #[.agg #[_, _, .slice ao1 (dgL xs xs.length).length cap1], _]); rw [HL2.out]; rfl, by show World.ownsRow _ _ _ _ (.slice ao1 (dgL xs xs.length).length cap1) (dgL xs xs.length).length _; rw [HL2.out]; exact hq, below_set3 (below_tr2 hkeep HBw.out) (by omega) _ _ _⟩
  · have hd : diagR xs = ⟨0, 0, [], false, 1⟩ := if_neg (fun hh => hn ⟨hh.1, hh.2.1⟩)
    rw [hd]
    clear hd
    by_cases h0 : xs.length = 0
    · go_enter Try.func31, Try.ntmps31
      go_wp2_with fail
      refine bodyPost_ret (results_row1 rfl _ _ _ _ _ _ _ rfl (heap_at _ _ _ (by simp)) Try.underlying24 rfl (by kernel_rfl)) rfl (gives1_no _ _ (below1 _ _))
    · have h9 : 8 < xs.length := by omega
      go_enter Try.func31, Try.ntmps31
      go_wp2_with fail
      refine bodyPost_ret (results_row1 rfl _ _ _ _ _ _ _ rfl (heap_at _ _ _ (by simp)) Try.underlying24 rfl (by kernel_rfl)) rfl (gives1_no _ _ (below1 _ _))

end Go.Proofs.Ytijohedhbbddjaa

namespace Go.Proofs.Ytijohedhbbddjaa
open Go.RowKit

def eyeN (n : Int) : Nat := if n ≤ 0 then 0 else if 9 ≤ n then 9 else n.toNat
def eyeR (n : Int) : MRes := diagR (List.replicate (eyeN n) 16777216)
theorem eyeN_lt {n : Int} {k : Nat} (h : k < eyeN n) : (k : Int) < n ∧ (k : Int) < 9 := by
  unfold eyeN at h
  repeat' split at h
  all_goals omega
theorem eyeN_le (n : Int) : eyeN n ≤ 9 := by
  unfold eyeN
  repeat' split
  all_goals omega
theorem eyeN_end (n : Int) : n ≤ eyeN n ∨ (eyeN n = 9 ∧ (9 : Int) ≤ n) := by
  unfold eyeN
  by_cases h1 : n ≤ 0
  · rw [if_pos h1]; left; omega
  · rw [if_neg h1]
    by_cases h2 : 9 ≤ n
    · rw [if_pos h2]; right; exact ⟨rfl, h2⟩
    · rw [if_neg h2]; left; omega

set_option maxRecDepth 100000 in
set_option maxHeartbeats 1000000 in
theorem reye3_any (w : World) (n : Int) : Calls Try.prog 29 #[.int .i64 n] w (Gives1 (eyeR n) w) := by
  have h9 := eyeN_le n
  have HE := Lib.hid (eyeN_end n)
  have HLt : Hid (∀ k : Nat, k < eyeN n → (k : Int) < n ∧ (k : Int) < 9) := fun k h => eyeN_lt h
  unfold eyeR
  obtain ⟨m, hm⟩ : ∃ m, eyeN n = m := ⟨_, rfl⟩
  rw [hm] at h9 HE HLt ⊢
  clear hm
  obtain ⟨i0, hi, hz0, hz1, hz2⟩ := info_parts Try.infoQ
  go_enter Try.func29, Try.ntmps29
  go_wp2_with fail
  go_loopg [4, 5] m (fun q sv kv wr => ∃ k : Nat, k ≤ m ∧ q = m - k ∧ kv = .int .i64 k ∧ ∃ ao cap, sv = .slice ao k cap ∧ NoneAt w wr (.slice ao k cap) (List.replicate k 16777216))
  case atStart => exact ⟨0, by omega, by omega, rfl, none, 0, rfl, none_start w⟩
  case round =>
    obtain ⟨k, hk, rfl, rfl, ao, cap, rfl, hN⟩ := hrel
    have HN := Lib.hid hN
    have hsz := hN.size
    have ho := hN.own
    rw [List.length_replicate] at ho
    clear hN
    by_cases hlt : k < m
    · obtain ⟨h1, h2⟩ := HLt.out k hlt
      go_wp2_with (at_builtin; refine wpList_append_own _ rfl (.tmp 15) (.tmp 16) 22 rfl (w.heap.size + 1) 25 i0 (.int .i64 0) 1 8 Try.underlying22 hi hz0 hz1 hz2 rfl (by decide) _ _ _ rfl (ho.alloc _) ⟨wr.heap.size, 0, none⟩ 1 1 [.int .i64 16777216] rfl rfl (news1 _ _ _) (one1 _ _) (by unfold maxLen; omega) (by omega) (by simp; omega) ?_; intro v' w2 hown2 hgrow2 _; obtain ⟨ao', cap', rfl⟩ := ownsRow_form hown2)
      go_roundg (m - (k + 1))
      case measure => omega
      case rel =>
        refine ⟨k + 1, by omega, rfl, by go_num, ao', cap', rfl, ?_⟩
        have := HN.out.step (by rw [List.length_replicate]; exact hown2) hgrow2
        rw [List.replicate_succ']
        exact this
    · have hkm : k = m := by omega
      subst hkm
      have hq : QS wr (.slice ao (List.replicate k (16777216 : Int)).length cap) (List.replicate k 16777216) := by rw [List.length_replicate]; exact QS.of_owns ho
      have HQ : Hid (QS wr (.slice ao k cap) (List.replicate k 16777216)) := QS.of_owns ho
      have HLn : Hid ((List.replicate k (16777216 : Int)).length ≤ 9223372036854775807) := by show _ ≤ _; rw [List.length_replicate]; omega
      obtain ⟨pr, hpr⟩ : ∃ p, diagR (List.replicate k 16777216) = p := ⟨_, rfl⟩
      have HPR := Lib.hid hpr
      clear hpr hq
      rcases HE.out with he | ⟨he, he9⟩
      · go_wp2_with (go_at_call 31; refine (rdiag3_any _ _ _ HQ.out HLn.out).mono ?_; rw [HPR.out]; rintro e w2 ⟨ao2, cap2, rfl, hown3, hb2⟩; have hR := block_later HN.out.t hb2; have t0 := cell_of_row _ _ 0 _ _ _ hR; have t1 := cell_of_row _ _ 1 _ _ _ hR; have t2 := cell_of_row _ _ 2 _ _ _ hR; have f0 := frozen_of_row _ _ 0 _ _ hR; have f1 := frozen_of_row _ _ 1 _ _ hR; have f2 := frozen_of_row _ _ 2 _ _ hR)
        rw [HPR.out]
        refine bodyPost_ret (results_row1 rfl _ _ _ _ _ _ _ rfl (heap_store3 _ _ _ _ _ (.int .i64 pr.r) (.int .i64 pr.c) (.slice ao2 pr.xs.length cap2) _ hR) Try.underlying24 rfl (by kernel_rfl)) rfl ⟨ao2, cap2, rfl, ?_, ?_⟩
        · exact ownsRow_base (owns_set3 hown3 (by omega) _ _ _) (by omega)
        · exact below_set3 (below_trans2 HN.out.below hb2) (by omega) _ _ _
      · have hk9 : (9 : Int) ≤ (k : Int) := by omega
        clear he
        go_wp2_with (go_at_call 31; refine (rdiag3_any _ _ _ HQ.out HLn.out).mono ?_; rw [HPR.out]; rintro e w2 ⟨ao2, cap2, rfl, hown3, hb2⟩; have hR := block_later HN.out.t hb2; have t0 := cell_of_row _ _ 0 _ _ _ hR; have t1 := cell_of_row _ _ 1 _ _ _ hR; have t2 := cell_of_row _ _ 2 _ _ _ hR; have f0 := frozen_of_row _ _ 0 _ _ hR; have f1 := frozen_of_row _ _ 1 _ _ hR; have f2 := frozen_of_row _ _ 2 _ _ hR)
        all_goals
          rw [HPR.out]
          refine bodyPost_ret (results_row1 rfl _ _ _ _ _ _ _ rfl (heap_store3 _ _ _ _ _ (.int .i64 pr.r) (.int .i64 pr.c) (.slice ao2 pr.xs.length cap2) _ hR) Try.underlying24 rfl (by kernel_rfl)) rfl ⟨ao2, cap2, rfl, ?_, ?_⟩
          · exact ownsRow_base (owns_set3 hown3 (by omega) _ _ _) (by omega)
          · exact below_set3 (below_trans2 HN.out.below hb2) (by omega) _ _ _

end Go.Proofs.Ytijohedhbbddjaa

namespace Go.Proofs.Ytijohedhbbddjaa
open Go.RowKit

theorem enters_diag : Enters 87 := enters_of Try.func87 (by kernel_rfl) (by kernel_rfl)

set_option maxHeartbeats 1000000 in
theorem diag_tells (w : World) (b : Nat) (v : Value) (xs : List Int) (hb : w.cell? ⟨b, 0, none⟩ = some v) (hq : QS w v xs) (hn : xs.length ≤ 8) :
    Tells 87 #[.pointer (some ⟨b, 0, none⟩)] w xs.length xs.length (fun i k => if i = k then xs.getD i 0 else 0) (fun _ _ => false) := by
  intro i k wx hi hk hbx
  show Calls Try.prog 87 #[.int .i64 i, .int .i64 k, .pointer (some ⟨b, 0, none⟩)] wx fun e w' => e = .returned (.tuple #[.int .i64 (if i = k then xs.getD i 0 else 0), .bool false]) ∧ Below wx.heap.size wx w'
  obtain ⟨ao, cap, hv, -⟩ := id hq
  subst hv
  have hc := cell_later hbx hb
  have hqx := hq.later hbx
  obtain ⟨b', off, rfl, hcx⟩ := qs_cell hqx hi
  have hx : xs.getD i 0 = xs[i] := by simp [hi]
  have hi1 : (i : Int) < (xs.length : Int) := by omega
  have hi0 : (0 : Int) ≤ (i : Int) := by omega
  by_cases he : i = k
  · subst he
    rw [show (if i = i then xs.getD i 0 else 0) = xs[i] by rw [if_pos rfl, hx]]
    obtain ⟨x, hxe⟩ : ∃ x, xs[i] = x := ⟨_, rfl⟩
    rw [hxe] at hcx ⊢
    clear hxe hx hq hqx hb
    go_enter Try.func87, Try.ntmps87
    go_wp2_with fail
    go_ret2
    exact ⟨rfl, Below.refl _ _⟩
  · have hne : ((i : Int) == (k : Int)) = false := by simp; omega
    rw [show (if i = k then xs.getD i 0 else 0) = 0 from if_neg he]
    clear hx hq hqx hb he
    go_enter Try.func87, Try.ntmps87
    go_wp2_with fail
    go_ret2
    exact ⟨rfl, Below.refl _ _⟩

theorem rightB_row (xs : List Int) : rightB 1 xs.length xs = decide (1 ≤ xs.length ∧ xs.length ≤ 8 ∧ xs.any clo = false) := by
  unfold rightB
  cases xs.any clo with
  | true => simp
  | false =>
    simp only [Bool.not_false, Bool.and_true]
    congr 1
    apply propext
    constructor
    · rintro ⟨-, -, h1, h2, -⟩; exact ⟨by omega, by omega, trivial⟩
    · rintro ⟨h1, h2, -⟩; exact ⟨by omega, by omega, by omega, by omega, by omega⟩

set_option maxRecDepth 100000 in
set_option maxHeartbeats 2000000 in
theorem diag_any (w : World) (v : Value) (xs : List Int) (h : QS w v xs) (hl : xs.length ≤ 9223372036854775807) :
    Calls Try.prog 30 #[v] w (Gives1 (diagR xs) w) := by
  obtain ⟨ao, cap, hv, -⟩ := id h
  subst hv
  have H := Lib.hid h
  clear h
  by_cases hok : 1 ≤ xs.length ∧ xs.length ≤ 8 ∧ xs.any clo = false
  · have hy : diagR xs = ⟨xs.length, xs.length, dgL xs xs.length, false, 0⟩ := if_pos hok
    have HRB : Hid (rightB 1 xs.length xs = true) := by show _ = true; rw [rightB_row]; exact decide_eq_true hok
    obtain ⟨hn1, hn8, -⟩ := hok
    rw [hy]
    clear hy
    go_enter Try.func30, Try.ntmps30
    go_upto_region 2 with fail
    obtain ⟨W0, hW0⟩ : ∃ W0, W0 = (w.alloc (.cells #[.slice ao xs.length cap] 22)).alloc (.cells #[.int .i64 0, .int .i64 0, .slice none 0 0] 24) := ⟨_, rfl⟩
    rw [← hW0]
    have r0 := cells_later (w := W0) (a := ⟨w.heap.size, 0, none⟩) (v := .slice ao xs.length cap) (by rw [hW0]; simp [go_sem])
    have HQ : Hid (QS W0 (.slice ao xs.length cap) xs) := by rw [hW0]; exact H.out.later (below2 _ _ _)
    have HR : Hid (W0.heap[w.heap.size + 1]? = some (.cells #[.int .i64 0, .int .i64 0, .slice none 0 0] 24 (0, 0))) := by rw [hW0]; exact heap_at _ _ _ (by simp)
    have HBw : Hid (Below w.heap.size w W0) := by rw [hW0]; exact below2 _ _ _
    have hsz : w.heap.size + 1 < W0.heap.size := by rw [hW0]; simp
    clear hW0
    have HC := Lib.hid r0
    have q0 := r0 _ (Below.refl _ _)
    go_upto_region 4 with (go_at_call 32; refine (right_any _ 1 xs.length _ xs HQ.out hl).mono ?_; rw [HRB.out]; rintro e w1 ⟨rfl, hb1⟩)
    clear q0
    go_upto_region 5 with (go_at_call 69; refine (made_any 87 _ _ xs.length xs.length _ _ hn8 hn8 enters_diag (diag_tells _ w.heap.size _ xs (HC.out _ hb1) (HQ.out.later hb1) hn8)).mono ?_; rintro e w3 ⟨ao', cap', rfl, hown, hb3⟩)
    have hb := below_trans2 hb1 hb3
    have hR := block_later HR.out hb
    have t0 := cell_of_row _ _ 0 _ _ _ hR
    have t1 := cell_of_row _ _ 1 _ _ _ hR
    have t2 := cell_of_row _ _ 2 _ _ _ hR
    simp only [List.getElem?_toArray, List.getElem?_cons_succ, List.getElem?_cons_zero] at t0 t1 t2
    have f0 := frozen_of_row _ _ 0 _ _ hR
    have f1 := frozen_of_row _ _ 1 _ _ hR
    have f2 := frozen_of_row _ _ 2 _ _ hR
    have hz : w.heap.size + 1 < w3.heap.size := lt_of_block hR
    have hs1 := hb1.size
    have HL2 : Hid ((dgL xs xs.length).length = xs.length * xs.length) := by unfold dgL; show _ = _; rw [tab_length]
    go_wp2_with fail
    have h3 := heap_store3 _ _ _ _ _ (.int .i64 xs.length) (.int .i64 xs.length) (.slice ao' (xs.length * xs.length) cap') _ hR
    refine bodyPost_ret (results_row1 rfl _ _ _ _ _ _ _ rfl ((heap_old _ _ _ (by simpa using hz)).trans h3) Try.underlying24 rfl (by kernel_rfl)) rfl ⟨ao', cap', ?_, ?_, ?_⟩
    · show _ = Ending.returned (.tuple #[.agg #[_, _, .slice ao' (dgL xs xs.length).length cap'], _])
      rw [HL2.out]
      rfl
    · show World.ownsRow _ _ _ _ (.slice ao' (dgL xs xs.length).length cap') (dgL xs xs.length).length _
      rw [HL2.out]
      exact ownsRow_base ((owns_set3 hown (by omega) _ _ _).alloc _) (by omega)
    · exact (below_set3 (below_trans2 HBw.out hb) (by omega) _ _ _).alloc (by simp; omega) _
  · have hd : diagR xs = ⟨0, 0, [], false, 1⟩ := if_neg hok
    rw [hd]
    clear hd
    by_cases h0 : xs.length = 0
    · clear hok
      go_enter Try.func30, Try.ntmps30
      go_wp2_with fail
      refine bodyPost_ret (results_row1 rfl _ _ _ _ _ _ _ rfl (heap_at _ _ _ (by simp)) Try.underlying24 rfl (by kernel_rfl)) rfl (gives1_no _ _ (below2 _ _ _))
    · by_cases h9 : 8 < xs.length
      · clear hok
        have h9i : (8 : Int) < (xs.length : Int) := by omega
        have h1i : (1 : Int) ≤ (xs.length : Int) := by omega
        go_enter Try.func30, Try.ntmps30
        go_wp2_with fail
        refine bodyPost_ret (results_row1 rfl _ _ _ _ _ _ _ rfl (heap_at _ _ _ (by simp)) Try.underlying24 rfl (by kernel_rfl)) rfl (gives1_no _ _ (below2 _ _ _))
      · have HRB : Hid (rightB 1 xs.length xs = false) := by show _ = false; rw [rightB_row]; exact decide_eq_false hok
        have hn1 : 1 ≤ xs.length := by omega
        have hn8 : xs.length ≤ 8 := by omega
        have h1i : (1 : Int) ≤ (xs.length : Int) := by omega
        have h8i : (xs.length : Int) ≤ 8 := by omega
        clear hok
        go_enter Try.func30, Try.ntmps30
        go_upto_region 2 with fail
        obtain ⟨W0, hW0⟩ : ∃ W0, W0 = (w.alloc (.cells #[.slice ao xs.length cap] 22)).alloc (.cells #[.int .i64 0, .int .i64 0, .slice none 0 0] 24) := ⟨_, rfl⟩
        rw [← hW0]
        have q0 : W0.cell? ⟨w.heap.size, 0, none⟩ = some (.slice ao xs.length cap) := by rw [hW0]; simp [go_sem]
        have HQ : Hid (QS W0 (.slice ao xs.length cap) xs) := by rw [hW0]; exact H.out.later (below2 _ _ _)
        have HR : Hid (W0.heap[w.heap.size + 1]? = some (.cells #[.int .i64 0, .int .i64 0, .slice none 0 0] 24 (0, 0))) := by rw [hW0]; exact heap_at _ _ _ (by simp)
        have HBw : Hid (Below w.heap.size w W0) := by rw [hW0]; exact below2 _ _ _
        clear hW0
        go_upto_region 3 with (go_at_call 32; refine (right_any _ 1 xs.length _ xs HQ.out hl).mono ?_; rw [HRB.out]; rintro e w1 ⟨rfl, hb1⟩)
        have hR := block_later HR.out hb1
        have t0 := cell_of_row _ _ 0 _ _ _ hR
        have t1 := cell_of_row _ _ 1 _ _ _ hR
        have t2 := cell_of_row _ _ 2 _ _ _ hR
        simp only [List.getElem?_toArray, List.getElem?_cons_succ, List.getElem?_cons_zero] at t0 t1 t2
        have f0 := frozen_of_row _ _ 0 _ _ hR
        have f1 := frozen_of_row _ _ 1 _ _ hR
        have f2 := frozen_of_row _ _ 2 _ _ hR
        go_wp2_with fail
        refine bodyPost_ret (results_row1 rfl _ _ _ _ _ _ _ rfl (heap_store3 _ _ _ _ _ (.int .i64 0) (.int .i64 0) (.slice none 0 0) _ hR) Try.underlying24 rfl (by kernel_rfl)) rfl ?_
        exact gives1_no _ _ (below_set3 (below_trans2 HBw.out hb1) (by omega) _ _ _)

end Go.Proofs.Ytijohedhbbddjaa
