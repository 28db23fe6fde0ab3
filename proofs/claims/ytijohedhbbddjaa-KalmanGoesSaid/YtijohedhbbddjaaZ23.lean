/- Texts of this claim, part 24: contracts of the functions that the law reaches. -/
import Derived.Test.YtijohedhbbddjaaZ22
import Derived.BigQuiet
namespace Go.Proofs.Ytijohedhbbddjaa
open Go.RowKit


theorem results_4 {fn : Func} {a b c d : Tmp} (h : fn.results = #[.tmp a, .tmp b, .tmp c, .tmp d]) (tmps : Array Value) (w : World) :
    (results fn tmps).run Try.prog w = .ok (.tuple #[tmps.getD a undef, tmps.getD b undef, tmps.getD c undef, tmps.getD d undef]) w := by
  simp [results, h]
theorem mayN_ok {n : Int} {r : Int} (h : 0 < r) : mayN n 1 n r = 0 := by unfold mayN; rw [if_neg (by omega), if_neg (by omega)]

set_option maxRecDepth 100000 in
set_option maxHeartbeats 1000000 in
theorem rinnov_no (w : World) (n xc pr pc hr hc z r : Int) (ax ap ah : Option Addr) (nx cx np cp nh ch : Nat) (hm : mayN n hr hc r ≠ 0) :
    Calls Try.prog 66 #[.agg #[.int .i64 n, .int .i64 xc, .slice ax nx cx, .int .i64 pr, .int .i64 pc, .slice ap np cp], .agg #[.int .i64 hr, .int .i64 hc, .slice ah nh ch], .int .i64 z, .int .i64 r] w fun e w' =>
      e = .returned (.tuple #[.int .i64 0, .int .i64 0, .bool false, .int .i64 (mayN n hr hc r)]) ∧ Below w.heap.size w w' := by
  have e8 : ∀ x y : Int, (x != y) = !decide (x = y) := fun _ _ => rfl
  by_cases h1 : hr = 1
  · subst h1
    by_cases h2 : hc = n
    · subst h2
      by_cases h3 : r ≤ 0
      · have hv : mayN hc 1 hc r = 1 := by unfold mayN; rw [if_neg (by omega), if_pos h3]
        rw [hv]
        clear hv hm
        go_enter Try.func66, Try.ntmps66
        go_wp2_with fail
        exact bodyPost_ret (results_4 rfl _ _) rfl ⟨rfl, below2 _ _ _⟩
      · exact absurd (mayN_ok (by omega)) hm
    · have hv : mayN n 1 hc r = 9 := by unfold mayN; rw [if_pos (Or.inr h2)]
      rw [hv]
      clear hv hm
      go_enter Try.func66, Try.ntmps66
      go_wp2_with fail
      exact bodyPost_ret (results_4 rfl _ _) rfl ⟨rfl, below2 _ _ _⟩
  · have hv : mayN n hr hc r = 9 := by unfold mayN; rw [if_pos (Or.inl h1)]
    rw [hv]
    clear hv hm
    go_enter Try.func66, Try.ntmps66
    go_wp2_with fail
    exact bodyPost_ret (results_4 rfl _ _) rfl ⟨rfl, below2 _ _ _⟩

set_option maxRecDepth 100000 in
set_option maxHeartbeats 2000000 in
theorem rinnov_any (w : World) (n : Nat) (vx vp vh : Value) (xs ps hs : List Int) (z r : Int) (hr : 0 < r) (ht : TMV w n vx vp xs ps) (hh : MV w 1 n vh hs) :
    Calls Try.prog 66 #[.agg #[.int .i64 n, .int .i64 1, vx, .int .i64 n, .int .i64 n, vp], .agg #[.int .i64 1, .int .i64 n, vh], .int .i64 z, .int .i64 r] w fun e w' =>
      e = .returned (.tuple #[.int .i64 (inY hs xs z n), .int .i64 (inS hs ps r n), .bool (inO hs xs ps z r n), .int .i64 0]) ∧ Below w.heap.size w w' := by
  obtain ⟨ax, cx, rfl, -⟩ := id ht.x.qs
  obtain ⟨ap, cp, rfl, -⟩ := id ht.p.qs
  obtain ⟨ah, ch, rfl, -⟩ := id hh.qs
  have hMul := fun (w : World) v v' h h' => rmul_11 w n v v' hs xs h h'
  have hBtw := fun (w : World) v v' h h' => rmid_1 w n v v' hs ps h h'
  unfold inY inS inO
  obtain ⟨lx, hlx⟩ : ∃ l, mulL hs xs 1 n 1 = l := ⟨_, rfl⟩
  obtain ⟨ox, hox⟩ : ∃ l, mulLO hs xs 1 n 1 = l := ⟨_, rfl⟩
  rw [hlx, hox] at hMul
  rw [hlx, hox]
  obtain ⟨lb, hlb⟩ : ∃ l, btwL hs ps 1 n = l := ⟨_, rfl⟩
  obtain ⟨ob, hob⟩ : ∃ l, btwO hs ps 1 n = l := ⟨_, rfl⟩
  rw [hlb, hob] at hBtw
  rw [hlb, hob]
  have HMul := Lib.hid hMul
  have HBtw := Lib.hid hBtw
  clear hlx hox hlb hob hMul hBtw
  obtain ⟨q0, hq0⟩ : ∃ q, lx.getD 0 0 = q := ⟨_, rfl⟩
  obtain ⟨q1, hq1⟩ : ∃ q, lb.getD 0 0 = q := ⟨_, rfl⟩
  rw [hq0, hq1]
  obtain ⟨y, hy⟩ : ∃ y, subQ z q0 = y := ⟨_, rfl⟩
  obtain ⟨yo, hyo⟩ : ∃ y, subO z q0 = y := ⟨_, rfl⟩
  obtain ⟨sv, hsv⟩ : ∃ y, addQ q1 r = y := ⟨_, rfl⟩
  obtain ⟨so, hso⟩ : ∃ y, addO q1 r = y := ⟨_, rfl⟩
  have HQ0 := Lib.hid hq0
  have HQ1 := Lib.hid hq1
  have HY := Lib.hid (And.intro hy hyo)
  have HSv := Lib.hid (And.intro hsv hso)
  rw [hy, hyo, hsv, hso]
  clear hq0 hq1 hy hyo hsv hso
  obtain ⟨s, hsz⟩ : ∃ s, w.heap.size = s := ⟨_, rfl⟩
  have e8 : ∀ x y : Int, (x != y) = !decide (x = y) := fun _ _ => rfl
  go_enter Try.func66, Try.ntmps66
  go_upto_region 5 with fail
  obtain ⟨V, hV⟩ : ∃ V, V = (w.alloc (rowT n 1 ax xs.length cx n n ap ps.length cp)).alloc (rowM 1 n ah hs.length ch) := ⟨_, rfl⟩
  have hbV : Below w.heap.size w V := by rw [hV]; exact below2 _ _ _
  have h0 : V.heap[s]? = some (rowT n 1 ax xs.length cx n n ap ps.length cp) := by rw [hV, heap_old _ _ _ (by simp; omega)]; exact heap_at _ _ _ hsz.symm
  have h1 : V.heap[s + 1]? = some (rowM 1 n ah hs.length ch) := by rw [hV]; exact heap_at _ _ _ (by simp; omega)
  unfold rowT rowM at hV
  rw [← hV]
  clear hV
  have HT := Lib.hid (ht.later hbV)
  have HH := Lib.hid (hh.later hbV)
  have HB := Lib.hid hbV
  have c0 := rowT_cell h0
  have c1 := rowM_cell h1
  go_upto_region 6 with (go_at_call 21; (refine (HMul.out _ _ _ HH.out HT.out.x).mono ?_); rintro e w1 ⟨ao1, cap1, rfl, hm1, hd1⟩)
  obtain ⟨g1, hg1⟩ : ∃ g, g = w1.heap.size := ⟨_, rfl⟩
  obtain ⟨V1, hV1⟩ : ∃ V, V = w1.alloc (rowM 1 1 ao1 lx.length cap1) := ⟨_, rfl⟩
  have hx1 := rowM_cell (show V1.heap[g1]? = some (rowM 1 1 ao1 lx.length cap1) by rw [hV1]; exact heap_at _ _ _ hg1)
  have hb1 : Below V.heap.size V V1 := by rw [hV1]; exact below_al hd1 _
  have hm1' : MO V1 V.heap.size 1 1 (.slice ao1 lx.length cap1) lx := by rw [hV1]; exact hm1.later (below1 _ _)
  rw [← hg1]
  unfold rowM at hV1
  rw [← hV1]
  obtain ⟨hl1, bq, oq, rfl, hc2⟩ := hm1'.first
  rw [HQ0.out] at hc2
  have HT1 := Lib.hid (HT.out.later hb1)
  have HH1 := Lib.hid (HH.out.later hb1)
  have HB1 := Lib.hid (below_trans2 HB.out hb1)
  have d0 := rowT_cell (block_later h0 hb1)
  have d1 := rowM_cell (block_later h1 hb1)
  clear c0 c1 h0 h1 hb1 hd1 hm1 hm1' hV1 hg1 hbV
  go_upto_region 8 with (first | (go_at_call 40; refine (rsub_any z q0 _).mono ?_; rw [HY.out.1, HY.out.2]; rintro e v ⟨rfl, rfl⟩) | (go_at_call 107; (refine (HBtw.out _ _ _ HH1.out HT1.out.p).mono ?_); rintro e w2 ⟨ao2, cap2, rfl, hm2, hd2⟩))
  obtain ⟨g2, hg2⟩ : ∃ g, g = w2.heap.size := ⟨_, rfl⟩
  obtain ⟨V2, hV2⟩ : ∃ V, V = w2.alloc (rowM 1 1 ao2 lb.length cap2) := ⟨_, rfl⟩
  have hx2 := rowM_cell (show V2.heap[g2]? = some (rowM 1 1 ao2 lb.length cap2) by rw [hV2]; exact heap_at _ _ _ hg2)
  have hb2 : Below V1.heap.size V1 V2 := by rw [hV2]; exact below_al hd2 _
  have hm2' : MO V2 V1.heap.size 1 1 (.slice ao2 lb.length cap2) lb := by rw [hV2]; exact hm2.later (below1 _ _)
  rw [← hg2]
  unfold rowM at hV2
  rw [← hV2]
  obtain ⟨hl2, bs, os, rfl, hc3⟩ := hm2'.first
  rw [HQ1.out] at hc3
  clear hc2 hx1 d0 d1 hd2 hm2 hm2' hV2 hg2
  go_wp2_with (go_at_call 38; refine (radd_any q1 r _).mono ?_; rw [HSv.out.1, HSv.out.2]; rintro e v ⟨rfl, rfl⟩)
  all_goals
    refine bodyPost_ret (results_4 rfl _ _) rfl ⟨by simp [*], below_trans2 HB1.out hb2⟩



end Go.Proofs.Ytijohedhbbddjaa

namespace Go.Proofs.Ytijohedhbbddjaa
open Go.RowKit

def rowP (fb : Nat) : Obj := .cells #[.pointer (some ⟨fb, 0, none⟩)] 127 (0, 0)
theorem rowP_cell {w : World} {g fb : Nat} (h : w.heap[g]? = some (rowP fb)) : w.cell? ⟨g, 0, none⟩ = some (.pointer (some ⟨fb, 0, none⟩)) := by
  unfold rowP at h
  rw [cell_of_row _ _ _ _ _ _ h]; rfl
theorem mscale_1 (w : World) (n : Nat) (v : Value) (ks : List Int) (q : Int) (h : MV w n 1 v ks) :
    Calls Try.prog 13 #[.agg #[.int .i64 n, .int .i64 1, v], .int .i64 q] w fun e w' =>
      ∃ ao cap, e = .returned (.tuple #[.agg #[.int .i64 n, .int .i64 1, .slice ao (scaleL ks q n 1).length cap], .bool (scaleLO ks q n 1)]) ∧ MO w' w.heap.size n 1 (.slice ao (scaleL ks q n 1).length cap) (scaleL ks q n 1) ∧ Below w.heap.size w w' :=
  scale_own w n 1 v ks q h

set_option maxRecDepth 100000 in
set_option maxHeartbeats 2000000 in
theorem scaled_any (w : World) (fb gk gw : Nat) (b : Bool) (n : Nat) (ak : Option Addr) (ck : Nat) (ks : List Int) (q : Int) (hw : Wk w fb b) (hk : w.heap[gk]? = some (rowM n 1 ak ks.length ck)) (hm : MV w n 1 (.slice ak ks.length ck) ks) (hp : w.heap[gw]? = some (rowP fb)) :
    Calls Try.prog 120 #[.int .i64 q, .pointer (some ⟨gk, 0, none⟩), .pointer (some ⟨gw, 0, none⟩)] w fun e w' =>
      ∃ ao cap, e = .returned (.agg #[.int .i64 n, .int .i64 1, .slice ao (scaleL ks q n 1).length cap]) ∧ MO w' 0 n 1 (.slice ao (scaleL ks q n 1).length cap) (scaleL ks q n 1) ∧ Wk w' fb (b || scaleLO ks q n 1) ∧ But fb w w' := by
  have hS := fun (w : World) v h => mscale_1 w n v ks q h
  obtain ⟨l, hl⟩ : ∃ l, scaleL ks q n 1 = l := ⟨_, rfl⟩
  obtain ⟨o, ho⟩ : ∃ l, scaleLO ks q n 1 = l := ⟨_, rfl⟩
  rw [hl, ho] at hS
  rw [hl, ho]
  have HS := Lib.hid hS
  clear hS hl ho
  obtain ⟨s, hsz⟩ : ∃ s, w.heap.size = s := ⟨_, rfl⟩
  have hfs := hw.lt
  go_enter Try.func120, Try.ntmps120
  go_upto_region 1 with fail
  obtain ⟨V, hV⟩ : ∃ V, V = w.alloc (rowM 0 0 none 0 0) := ⟨_, rfl⟩
  have hbV : Below w.heap.size w V := by rw [hV]; exact below1 _ _
  have h0 : V.heap[s]? = some (rowM 0 0 none 0 0) := by rw [hV]; exact heap_at _ _ _ hsz.symm
  unfold rowM at hV
  rw [← hV]
  clear hV
  have HWV := Lib.hid (hw.later hbV)
  have hkc := rowM_cell (block_later hk hbV)
  have HM := Lib.hid (hm.later hbV)
  have HPt := Lib.hid (block_later hp hbV)
  have HBV := Lib.hid hbV
  clear hw hk hm hp hbV
  go_upto_region 2 with (go_at_call 13; (refine (HS.out _ _ HM.out).mono ?_); rintro e w1 ⟨a1, c1, rfl, hm1, hd1⟩)
  obtain ⟨g5, hg5⟩ : ∃ g, g = w1.heap.size := ⟨_, rfl⟩
  obtain ⟨V1, hV1⟩ : ∃ V, V = w1.alloc (rowM n 1 a1 l.length c1) := ⟨_, rfl⟩
  have hx := rowM_cell (show V1.heap[g5]? = some (rowM n 1 a1 l.length c1) by rw [hV1]; exact heap_at _ _ _ hg5)
  have hb1 : Below V.heap.size V V1 := by rw [hV1]; exact below_al hd1 _
  have HM1 : Hid (MO V1 V.heap.size n 1 (.slice a1 l.length c1) l) := by rw [hV1]; exact hm1.later (below1 _ _)
  rw [← hg5]
  unfold rowM at hV1
  rw [← hV1]
  have HW1 := Lib.hid (HWV.out.later hb1)
  have hpc := rowP_cell (block_later HPt.out hb1)
  have HR := Lib.hid (block_later h0 hb1)
  have HB1 := Lib.hid (below_trans2 HBV.out hb1)
  clear hV1 hg5 hm1 hd1 hb1 h0 hkc
  go_wp2_with (go_at_call 104; (refine (wmat_any _ fb b o n 1 0 a1 l.length c1 HW1.out).mono ?_); rintro e w2 ⟨rfl, hw2, hb2⟩; have hr2 := hb2.row HR.out (show s ≠ fb by omega); have hrc := rowM_cell hr2; have hrf := rowM_frozen hr2)
  refine bodyPost_ret (results_m rfl _ _ s n 1 a1 l.length c1 rfl (storeM hr2 _ _ _ _ _)) rfl ⟨a1, c1, rfl, ?_, ?_, ?_⟩
  · exact ((HM1.out.but HW1.out hb2).set3 hr2 _ _ _).low (by omega)
  · exact hw2.set3 hr2 _ _ _
  · exact ((But.of_below (fb := fb) HB1.out).trans hb2).set3 (by omega) _ _ _

end Go.Proofs.Ytijohedhbbddjaa

namespace Go.Proofs.Ytijohedhbbddjaa
open Go.RowKit

theorem trans_row (w : World) (n : Nat) (v : Value) (hs : List Int) (h : MV w 1 n v hs) : Calls Try.prog 36 #[.agg #[.int .i64 1, .int .i64 n, v]] w fun e w' =>
    ∃ ao cap, e = .returned (.agg #[.int .i64 n, .int .i64 1, .slice ao (transL hs 1 n).length cap]) ∧ MO w' w.heap.size n 1 (.slice ao (transL hs 1 n).length cap) (transL hs 1 n) ∧ Below w.heap.size w w' := trans_own w 1 n v hs h
theorem trans_col (w : World) (n : Nat) (v : Value) (hs : List Int) (h : MV w n 1 v hs) : Calls Try.prog 36 #[.agg #[.int .i64 n, .int .i64 1, v]] w fun e w' =>
    ∃ ao cap, e = .returned (.agg #[.int .i64 1, .int .i64 n, .slice ao (transL hs n 1).length cap]) ∧ MO w' w.heap.size 1 n (.slice ao (transL hs n 1).length cap) (transL hs n 1) ∧ Below w.heap.size w w' := trans_own w n 1 v hs h
theorem rtrans_row (w : World) (n : Nat) (v : Value) (hs : List Int) (h : MV w 1 n v hs) : Calls Try.prog 37 #[.agg #[.int .i64 1, .int .i64 n, v]] w fun e w' =>
    ∃ ao cap, e = .returned (.agg #[.int .i64 n, .int .i64 1, .slice ao (transL hs 1 n).length cap]) ∧ MO w' w.heap.size n 1 (.slice ao (transL hs 1 n).length cap) (transL hs 1 n) ∧ Below w.heap.size w w' := rtrans_own w 1 n v hs h
theorem rtrans_col (w : World) (n : Nat) (v : Value) (hs : List Int) (h : MV w n 1 v hs) : Calls Try.prog 37 #[.agg #[.int .i64 n, .int .i64 1, v]] w fun e w' =>
    ∃ ao cap, e = .returned (.agg #[.int .i64 1, .int .i64 n, .slice ao (transL hs n 1).length cap]) ∧ MO w' w.heap.size 1 n (.slice ao (transL hs n 1).length cap) (transL hs n 1) ∧ Below w.heap.size w w' := rtrans_own w n 1 v hs h
theorem mmul_out (w : World) (n : Nat) (v v' : Value) (ks hs : List Int) (h : MV w n 1 v ks) (h' : MV w 1 n v' hs) :
    Calls Try.prog 20 #[.agg #[.int .i64 n, .int .i64 1, v], .agg #[.int .i64 1, .int .i64 n, v']] w (GivesO n n (mulL ks hs n 1 n) (mulLO ks hs n 1 n) w) := mmul_own w n 1 n v v' ks hs h h'
theorem rmul_out (w : World) (n : Nat) (v v' : Value) (ks hs : List Int) (h : MV w n 1 v ks) (h' : MV w 1 n v' hs) :
    Calls Try.prog 21 #[.agg #[.int .i64 n, .int .i64 1, v], .agg #[.int .i64 1, .int .i64 n, v']] w (GivesO n n (mulL ks hs n 1 n) (mulLO ks hs n 1 n) w) := rmul_own w n 1 n v v' ks hs h h'
theorem madd_col (w : World) (n : Nat) (v v' : Value) (xs ys : List Int) (h : MV w n 1 v xs) (h' : MV w n 1 v' ys) :
    Calls Try.prog 16 #[.agg #[.int .i64 n, .int .i64 1, v], .agg #[.int .i64 n, .int .i64 1, v']] w fun e w' =>
      ∃ ao cap, e = .returned (.tuple #[.agg #[.int .i64 n, .int .i64 1, .slice ao (eachL addQ xs ys n 1).length cap], .bool (eachO addO xs ys n 1), .int .i64 0]) ∧ MO w' w.heap.size n 1 (.slice ao (eachL addQ xs ys n 1).length cap) (eachL addQ xs ys n 1) ∧ Below w.heap.size w w' := madd_own w n 1 v v' xs ys h h'
theorem radd_col (w : World) (n : Nat) (v v' : Value) (xs ys : List Int) (h : MV w n 1 v xs) (h' : MV w n 1 v' ys) :
    Calls Try.prog 17 #[.agg #[.int .i64 n, .int .i64 1, v], .agg #[.int .i64 n, .int .i64 1, v']] w fun e w' =>
      ∃ ao cap, e = .returned (.tuple #[.agg #[.int .i64 n, .int .i64 1, .slice ao (eachL addQ xs ys n 1).length cap], .bool (eachO addO xs ys n 1), .int .i64 0]) ∧ MO w' w.heap.size n 1 (.slice ao (eachL addQ xs ys n 1).length cap) (eachL addQ xs ys n 1) ∧ Below w.heap.size w w' := radd_own w n 1 v v' xs ys h h'
theorem rscale_1 (w : World) (n : Nat) (v : Value) (ks : List Int) (q : Int) (h : MV w n 1 v ks) :
    Calls Try.prog 33 #[.agg #[.int .i64 n, .int .i64 1, v], .int .i64 q] w fun e w' =>
      ∃ ao cap, e = .returned (.tuple #[.agg #[.int .i64 n, .int .i64 1, .slice ao (scaleL ks q n 1).length cap], .bool (scaleLO ks q n 1)]) ∧ MO w' w.heap.size n 1 (.slice ao (scaleL ks q n 1).length cap) (scaleL ks q n 1) ∧ Below w.heap.size w w' := rscale_own w n 1 v ks q h

/-- A place of a row of the call's own. -/
theorem Own.at {w : World} {base : Nat} {ao : Option Addr} {m cap : Nat} {xs : List Int} (h : Own w base (.slice ao m cap) xs) {i : Nat} (hi : i < xs.length) :
    ∃ q, ao = some ⟨q, 0, none⟩ ∧ base ≤ q ∧ (∃ cs, w.heap[q]? = some (.cells cs 25 (0, 0))) ∧ w.cell? ⟨q, i, none⟩ = some (.int .i64 (xs.getD i 0)) ∧ w.frozen? ⟨q, i, none⟩ = false ∧ ∀ x : Int, Own (w.setCell ⟨q, i, none⟩ (.int .i64 x)) base (.slice ao m cap) (xs.set i x) := by
  have hl : (xs.map (Value.int .i64)).length = xs.length := by simp
  rcases id h.2 with ⟨h1, h2⟩ | ⟨q, cap', cur, hv, hq, hh, hn, hm, hs, ht⟩
  · have := h.1; rw [h2] at this; simp at this; subst this; simp at hi
  · injection hv with e1 e2 e3
    subst e1; subst e2; subst e3
    refine ⟨q, rfl, hq, ⟨_, hh⟩, ?_, ?_, fun x => ?_⟩
    · rw [World.ownsRow.cellAt h i (by omega)]
      simp [hi]
    · exact World.ownsRow.frozenAt h i
    · have hst := World.ownsRow.stored h i (.int .i64 x)
      have := hst.1
      unfold Own
      rw [List.map_set, List.length_set]
      exact this
theorem Wk.setQ {w : World} {fb q : Nat} {b : Bool} {cs : Array Value} (h : Wk w fb b) (hq : w.heap[q]? = some (.cells cs 25 (0, 0))) (i : Nat) (x : Value) : Wk (w.setCell ⟨q, i, none⟩ x) fb b :=
  (Below.heap_setCell _ _ _ _ (by show fb ≠ q; intro he; subst he; unfold Wk at h; rw [hq] at h; simp at h)).trans h
theorem rowM_setQ {w : World} {g q : Nat} {r c : Int} {ao : Option Addr} {n cap : Nat} {cs : Array Value} (h : w.heap[g]? = some (rowM r c ao n cap)) (hq : w.heap[q]? = some (.cells cs 25 (0, 0))) (i : Nat) (x : Value) : (w.setCell ⟨q, i, none⟩ x).heap[g]? = some (rowM r c ao n cap) :=
  (Below.heap_setCell _ _ _ _ (by show g ≠ q; intro he; subst he; rw [hq] at h; simp [rowM] at h)).trans h

/-- A row whose first i numbers are divided. -/
def dvF (ks : List Int) (s : Int) (i j : Nat) : Int := if j < i then divQ (ks.getD j 0) s else ks.getD j 0
def dvL (ks : List Int) (s : Int) (i : Nat) : List Int := rowF (dvF ks s i) ks.length
def dvO (ks : List Int) (s : Int) (i : Nat) : Bool := (List.range i).any fun j => divO (ks.getD j 0) s
theorem dvL_zero (ks : List Int) (s : Int) : dvL ks s 0 = ks := by
  unfold dvL rowF
  apply List.ext_getElem?
  intro j
  by_cases hj : j < ks.length
  · simp [dvF, hj]
  · rw [List.getElem?_eq_none (by simp; omega), List.getElem?_eq_none (by omega)]
theorem dvL_len (ks : List Int) (s : Int) (i : Nat) : (dvL ks s i).length = ks.length := by simp [dvL, rowF]
theorem dvL_at (ks : List Int) (s : Int) {i : Nat} (hi : i < ks.length) : (dvL ks s i).getD i 0 = ks.getD i 0 := by
  unfold dvL
  rw [rowF_getD _ hi]
  unfold dvF
  rw [if_neg (by omega)]
theorem dvL_step (ks : List Int) (s : Int) {i : Nat} (hi : i < ks.length) : (dvL ks s i).set i (divQ (ks.getD i 0) s) = dvL ks s (i + 1) := by
  unfold dvL
  rw [rowF_set]
  refine rowF_ext fun j _ => ?_
  unfold dvF
  by_cases h : j = i
  · subst h; rw [if_pos rfl, if_pos (by omega)]
  · rw [if_neg h]
    by_cases h2 : j < i
    · rw [if_pos h2, if_pos (by omega)]
    · rw [if_neg h2, if_neg (by omega)]
theorem dvO_succ (ks : List Int) (s : Int) (i : Nat) : dvO ks s (i + 1) = (dvO ks s i || divO (ks.getD i 0) s) := by simp [dvO, List.range_succ]

end Go.Proofs.Ytijohedhbbddjaa
