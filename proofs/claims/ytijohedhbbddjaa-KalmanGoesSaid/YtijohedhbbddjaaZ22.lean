/- Texts of this claim, part 23: contracts of the functions that the law reaches. -/
import Derived.Test.YtijohedhbbddjaaZ21
import Derived.Deep.CutBlock
import Derived.Deep.DeepCutAuto
namespace Go.Proofs.Ytijohedhbbddjaa
open Go.RowKit

/-- A track: numbers, and how they vary. -/
structure TMV (w : World) (n : Nat) (vx vp : Value) (xs ps : List Int) : Prop where
  x : MV w n 1 vx xs
  p : MV w n n vp ps
theorem TMV.later {w w' : World} {n : Nat} {vx vp : Value} {xs ps : List Int} (h : TMV w n vx vp xs ps) (hb : Below w.heap.size w w') : TMV w' n vx vp xs ps := ⟨h.x.later hb, h.p.later hb⟩
def rowT (xr xc : Int) (ax : Option Addr) (nx cx : Nat) (pr pc : Int) (ap : Option Addr) (np cp : Nat) : Obj := .cells #[.int .i64 xr, .int .i64 xc, .slice ax nx cx, .int .i64 pr, .int .i64 pc, .slice ap np cp] 71 (0, 0)
theorem rowT_cell {w : World} {g : Nat} {xr xc : Int} {ax : Option Addr} {nx cx : Nat} {pr pc : Int} {ap : Option Addr} {np cp : Nat} (h : w.heap[g]? = some (rowT xr xc ax nx cx pr pc ap np cp)) :
    w.cell? ⟨g, 0, none⟩ = some (.int .i64 xr) ∧ w.cell? ⟨g, 1, none⟩ = some (.int .i64 xc) ∧ w.cell? ⟨g, 2, none⟩ = some (.slice ax nx cx) ∧ w.cell? ⟨g, 3, none⟩ = some (.int .i64 pr) ∧ w.cell? ⟨g, 4, none⟩ = some (.int .i64 pc) ∧ w.cell? ⟨g, 5, none⟩ = some (.slice ap np cp) := by
  unfold rowT at h
  exact ⟨by rw [cell_of_row _ _ _ _ _ _ h]; rfl, by rw [cell_of_row _ _ _ _ _ _ h]; rfl, by rw [cell_of_row _ _ _ _ _ _ h]; rfl, by rw [cell_of_row _ _ _ _ _ _ h]; rfl, by rw [cell_of_row _ _ _ _ _ _ h]; rfl, by rw [cell_of_row _ _ _ _ _ _ h]; rfl⟩
theorem rowT_frozen {w : World} {g : Nat} {xr xc : Int} {ax : Option Addr} {nx cx : Nat} {pr pc : Int} {ap : Option Addr} {np cp : Nat} (h : w.heap[g]? = some (rowT xr xc ax nx cx pr pc ap np cp)) (i : Nat) : w.frozen? ⟨g, i, none⟩ = false := by
  unfold rowT at h
  exact frozen_of_row _ _ i _ _ h
theorem rowT_but {w : World} {f g : Nat} {xr xc : Int} {ax : Option Addr} {nx cx : Nat} {pr pc : Int} {ap : Option Addr} {np cp : Nat} (h : w.heap[g]? = some (rowT xr xc ax nx cx pr pc ap np cp)) (hf : g ≠ f) :
    (∀ w', But f w w' → w'.cell? ⟨g, 0, none⟩ = some (.int .i64 xr)) ∧ (∀ w', But f w w' → w'.cell? ⟨g, 1, none⟩ = some (.int .i64 xc)) ∧ (∀ w', But f w w' → w'.cell? ⟨g, 2, none⟩ = some (.slice ax nx cx)) ∧ (∀ w', But f w w' → w'.cell? ⟨g, 3, none⟩ = some (.int .i64 pr)) ∧ (∀ w', But f w w' → w'.cell? ⟨g, 4, none⟩ = some (.int .i64 pc)) ∧ (∀ w', But f w w' → w'.cell? ⟨g, 5, none⟩ = some (.slice ap np cp)) :=
  ⟨cells_but (rowT_cell h).1 hf, cells_but (rowT_cell h).2.1 hf, cells_but (rowT_cell h).2.2.1 hf, cells_but (rowT_cell h).2.2.2.1 hf, cells_but (rowT_cell h).2.2.2.2.1 hf, cells_but (rowT_cell h).2.2.2.2.2 hf⟩
theorem rowM_but {w : World} {f g : Nat} {r c : Int} {ao : Option Addr} {n cap : Nat} (h : w.heap[g]? = some (rowM r c ao n cap)) (hf : g ≠ f) :
    (∀ w', But f w w' → w'.cell? ⟨g, 0, none⟩ = some (.int .i64 r)) ∧ (∀ w', But f w w' → w'.cell? ⟨g, 1, none⟩ = some (.int .i64 c)) ∧ (∀ w', But f w w' → w'.cell? ⟨g, 2, none⟩ = some (.slice ao n cap)) :=
  ⟨cells_but (rowM_cell h).1 hf, cells_but (rowM_cell h).2.1 hf, cells_but (rowM_cell h).2.2 hf⟩
theorem storeT {w : World} {g : Nat} {xr xc : Int} {ax : Option Addr} {nx cx : Nat} {pr pc : Int} {ap : Option Addr} {np cp : Nat} (hg : w.heap[g]? = some (rowT xr xc ax nx cx pr pc ap np cp)) (xr' xc' : Int) (ax' : Option Addr) (nx' cx' : Nat) (pr' pc' : Int) (ap' : Option Addr) (np' cp' : Nat) :
    ((((((w.setCell ⟨g, 0, none⟩ (.int .i64 xr')).setCell ⟨g, 1, none⟩ (.int .i64 xc')).setCell ⟨g, 2, none⟩ (.slice ax' nx' cx')).setCell ⟨g, 3, none⟩ (.int .i64 pr')).setCell ⟨g, 4, none⟩ (.int .i64 pc')).setCell ⟨g, 5, none⟩ (.slice ap' np' cp')).heap[g]? = some (rowT xr' xc' ax' nx' cx' pr' pc' ap' np' cp') := by
  unfold rowT at hg ⊢
  have g1 := heap_setCell_same _ _ 0 _ _ (.int .i64 xr') hg
  have g2 := heap_setCell_same _ _ 1 _ _ (.int .i64 xc') g1
  have g3 := heap_setCell_same _ _ 2 _ _ (.slice ax' nx' cx') g2
  have g4 := heap_setCell_same _ _ 3 _ _ (.int .i64 pr') g3
  have g5 := heap_setCell_same _ _ 4 _ _ (.int .i64 pc') g4
  have g6 := heap_setCell_same _ _ 5 _ _ (.slice ap' np' cp') g5
  exact g6
section
variable {w : World} {g : Nat} (x0 x1 x2 x3 x4 x5 : Value)
theorem setT_other {k : Nat} (h : k ≠ g) : ((((((w.setCell ⟨g, 0, none⟩ x0).setCell ⟨g, 1, none⟩ x1).setCell ⟨g, 2, none⟩ x2).setCell ⟨g, 3, none⟩ x3).setCell ⟨g, 4, none⟩ x4).setCell ⟨g, 5, none⟩ x5).heap[k]? = w.heap[k]? :=
  (Below.heap_setCell _ _ _ _ h).trans ((Below.heap_setCell _ _ _ _ h).trans ((Below.heap_setCell _ _ _ _ h).trans ((Below.heap_setCell _ _ _ _ h).trans ((Below.heap_setCell _ _ _ _ h).trans (Below.heap_setCell _ _ _ _ h)))))
theorem below_setT {B : Nat} {a : World} (h : Below B a w) (hg : B ≤ g) : Below B a ((((((w.setCell ⟨g, 0, none⟩ x0).setCell ⟨g, 1, none⟩ x1).setCell ⟨g, 2, none⟩ x2).setCell ⟨g, 3, none⟩ x3).setCell ⟨g, 4, none⟩ x4).setCell ⟨g, 5, none⟩ x5) :=
  (((((h.setCell hg _).setCell hg _).setCell hg _).setCell hg _).setCell hg _).setCell hg _
theorem MO.setT {base r c : Nat} {v : Value} {xs : List Int} (h : MO w base r c v xs) {cs : Array Value} (hg : w.heap[g]? = some (.cells cs 71 (0, 0))) : MO ((((((w.setCell ⟨g, 0, none⟩ x0).setCell ⟨g, 1, none⟩ x1).setCell ⟨g, 2, none⟩ x2).setCell ⟨g, 3, none⟩ x3).setCell ⟨g, 4, none⟩ x4).setCell ⟨g, 5, none⟩ x5) base r c v xs :=
  ⟨h.own.kept fun k cs' _ hk => setT_other _ _ _ _ _ _ (fun he => by subst he; rw [hg] at hk; simp at hk), h.len, h.hr, h.hc⟩
theorem But.setC {V : World} (h : But g V w) (i : Nat) (x : Value) : But g V (w.setCell ⟨g, i, none⟩ x) := h.trans (But.set _ i x)
theorem But.setT {V : World} (h : But g V w) : But g V ((((((w.setCell ⟨g, 0, none⟩ x0).setCell ⟨g, 1, none⟩ x1).setCell ⟨g, 2, none⟩ x2).setCell ⟨g, 3, none⟩ x3).setCell ⟨g, 4, none⟩ x4).setCell ⟨g, 5, none⟩ x5) := (((((h.setC 0 x0).setC 1 x1).setC 2 x2).setC 3 x3).setC 4 x4).setC 5 x5
end
/-- A track, an oddness and an error number are handed back. -/
def GivesTr (xr xc : Int) (xs : List Int) (pr pc : Int) (ps : List Int) (odd : Bool) (err : Int) (w : World) (e : Ending) (w' : World) : Prop :=
  ∃ ax cx ap cp, e = .returned (.tuple #[.agg #[.int .i64 xr, .int .i64 xc, .slice ax xs.length cx, .int .i64 pr, .int .i64 pc, .slice ap ps.length cp], .bool odd, .int .i64 err]) ∧ QS w' (.slice ax xs.length cx) xs ∧ QS w' (.slice ap ps.length cp) ps ∧ Below w.heap.size w w'
/-- The same, where the rows are the call's own, and the second one is younger than the first one. -/
def GivesTw (xr xc : Int) (xs : List Int) (pr pc : Int) (ps : List Int) (odd : Bool) (err : Int) (w : World) (e : Ending) (w' : World) : Prop :=
  ∃ ax cx ap cp, e = .returned (.tuple #[.agg #[.int .i64 xr, .int .i64 xc, .slice ax xs.length cx, .int .i64 pr, .int .i64 pc, .slice ap ps.length cp], .bool odd, .int .i64 err]) ∧ Own w' w.heap.size (.slice ax xs.length cx) xs ∧ Own w' w.heap.size (.slice ap ps.length cp) ps ∧ (∀ q o, ax = some ⟨q, o, none⟩ → Own w' (q + 1) (.slice ap ps.length cp) ps) ∧ Below w.heap.size w w'
theorem GivesTw.tr {xr xc pr pc err : Int} {xs ps : List Int} {odd : Bool} {w w' : World} {e : Ending} (h : GivesTw xr xc xs pr pc ps odd err w e w') : GivesTr xr xc xs pr pc ps odd err w e w' := by
  obtain ⟨ax, cx, ap, cp, he, h1, h2, -, h3⟩ := h
  exact ⟨ax, cx, ap, cp, he, h1.qs, h2.qs, h3⟩
theorem Own.block_lt {w : World} {base q o n cap : Nat} {xs : List Int} (h : Own w base (.slice (some ⟨q, o, none⟩) n cap) xs) : q < w.heap.size := by
  rcases h.2 with ⟨h1, h2⟩ | ⟨g, cap, cur, hv, hg, hh, r⟩
  · cases h1
  · injection hv with h1
    injection h1 with h1
    injection h1 with h1
    subst h1
    exact lt_of_block hh
theorem results_t2 {fn : Func} {p u v : Tmp} (h : fn.results = #[.cell p 71, .tmp u, .tmp v]) (tmps : Array Value) (w : World) (g : Nat) (xr xc : Int) (ax : Option Addr) (nx cx : Nat) (pr pc : Int) (ap : Option Addr) (np cp : Nat) (hp : tmps.getD p undef = .pointer (some ⟨g, 0, none⟩)) (hg : w.heap[g]? = some (rowT xr xc ax nx cx pr pc ap np cp)) :
    (results fn tmps).run Try.prog w = .ok (.tuple #[.agg #[.int .i64 xr, .int .i64 xc, .slice ax nx cx, .int .i64 pr, .int .i64 pc, .slice ap np cp], tmps.getD u undef, tmps.getD v undef]) w := by
  unfold rowT at hg
  exact results_row2 h tmps w g _ _ _ _ hp hg Try.underlying71 rfl (by kernel_rfl)

set_option maxHeartbeats 1000000 in
theorem fits_any (w : World) (g : Nat) (n r c : Int) (v : Value) (hv : ∃ ao m cap, v = .slice ao m cap) (hg : w.cell? ⟨g, 0, none⟩ = some (.int .i64 n)) :
    Calls Try.prog 103 #[.agg #[.int .i64 r, .int .i64 c, v], .pointer (some ⟨g, 0, none⟩)] w fun e w' => e = .returned (.bool (decide (r = n) && decide (c = n))) ∧ Below w.heap.size w w' := by
  obtain ⟨ao, m, cap, rfl⟩ := hv
  have hlt : g < w.heap.size := by
    unfold World.cell? at hg
    cases h : w.heap[g]? with
    | none => rw [h] at hg; cases hg
    | some o => exact lt_of_block h
  have hne : ¬ g = w.heap.size := by omega
  have e7 : ∀ x y : Int, (x == y) = decide (x = y) := fun _ _ => rfl
  go_enter Try.func103, Try.ntmps103
  go_wp2_with fail
  all_goals
    go_ret
    exact ⟨retB (by simp [*]), below1 _ _⟩

theorem mmul_col (w : World) (r n : Nat) (v v' : Value) (fs xs : List Int) (h : MV w r n v fs) (h' : MV w n 1 v' xs) :
    Calls Try.prog 20 #[.agg #[.int .i64 r, .int .i64 n, v], .agg #[.int .i64 n, .int .i64 1, v']] w fun e w' =>
      ∃ ao cap, e = .returned (.tuple #[.agg #[.int .i64 r, .int .i64 1, .slice ao (mulL fs xs r n 1).length cap], .bool (mulLO fs xs r n 1), .int .i64 0]) ∧ MO w' w.heap.size r 1 (.slice ao (mulL fs xs r n 1).length cap) (mulL fs xs r n 1) ∧ Below w.heap.size w w' :=
  mmul_own w r n 1 v v' fs xs h h'
def predX (fs xs : List Int) (n : Nat) : List Int := mulL fs xs n n 1
def predP (fs qs ps : List Int) (n : Nat) : List Int := goodL (eachL addQ (btwL fs ps n n) qs n n) n
def predO (fs qs xs ps : List Int) (n : Nat) : Bool := (mulLO fs xs n n 1 || btwO fs ps n n) || eachO addO (btwL fs ps n n) qs n n

set_option maxRecDepth 100000 in
set_option maxHeartbeats 4000000 in
theorem predict_own (w : World) (n : Nat) (vx vp vf vq : Value) (xs ps fs qs : List Int) (ht : TMV w n vx vp xs ps) (hf : MV w n n vf fs) (hq : MV w n n vq qs) :
    Calls Try.prog 61 #[.agg #[.int .i64 n, .int .i64 1, vx, .int .i64 n, .int .i64 n, vp], .agg #[.int .i64 n, .int .i64 n, vf], .agg #[.int .i64 n, .int .i64 n, vq]] w (GivesTw n 1 (predX fs xs n) n n (predP fs qs ps n) (predO fs qs xs ps n) 0 w) := by
  obtain ⟨ax, cx, rfl, -⟩ := id ht.x.qs
  obtain ⟨ap, cp, rfl, -⟩ := id ht.p.qs
  obtain ⟨af, cf, rfl, -⟩ := id hf.qs
  obtain ⟨aq, cq, rfl, -⟩ := id hq.qs
  have hn8 := hf.hr
  unfold predX predP predO
  have hMul := fun (w : World) v v' h h' => mmul_col w n n v v' fs xs h h'
  obtain ⟨lx, hlx⟩ : ∃ l, mulL fs xs n n 1 = l := ⟨_, rfl⟩
  obtain ⟨ox, hox⟩ : ∃ l, mulLO fs xs n n 1 = l := ⟨_, rfl⟩
  rw [hlx, hox] at hMul
  rw [hlx, hox]
  have hBtw := fun (w : World) fb b v v' h h' h'' => between_any w fb b n n v v' fs ps h h' h''
  obtain ⟨lb, hlb⟩ : ∃ l, btwL fs ps n n = l := ⟨_, rfl⟩
  obtain ⟨ob, hob⟩ : ∃ l, btwO fs ps n n = l := ⟨_, rfl⟩
  rw [hlb, hob] at hBtw
  rw [hlb, hob]
  have hAdd := fun (w : World) v v' h h' => madd_own w n n v v' lb qs h h'
  have hIn := eachAdd_inQ lb qs n n
  obtain ⟨la, hla⟩ : ∃ l, eachL addQ lb qs n n = l := ⟨_, rfl⟩
  obtain ⟨oa, hoa⟩ : ∃ l, eachO addO lb qs n n = l := ⟨_, rfl⟩
  rw [hla, hoa] at hAdd
  rw [hla] at hIn
  rw [hla, hoa]
  have hGood := fun (w : World) v h => good_any w n v la h hIn
  obtain ⟨lg, hlg⟩ : ∃ l, goodL la n = l := ⟨_, rfl⟩
  rw [hlg] at hGood
  rw [hlg]
  have HMul := Lib.hid hMul
  have HBtw := Lib.hid hBtw
  have HAdd := Lib.hid hAdd
  have HGood := Lib.hid hGood
  clear hlx hox hlb hob hla hoa hlg hMul hBtw hAdd hGood hIn
  have hLx : lx.length = lx.length := rfl
  obtain ⟨s, hs⟩ : ∃ s, w.heap.size = s := ⟨_, rfl⟩
  go_enter Try.func61, Try.ntmps61
  go_upto_region 3 with fail
  obtain ⟨W, hW⟩ : ∃ W, W = ((((w.alloc (rowT n 1 ax xs.length cx n n ap ps.length cp)).alloc (rowM n n af fs.length cf)).alloc (rowM n n aq qs.length cq)).alloc (rowT 0 0 none 0 0 0 0 none 0 0)).alloc (.cells #[.int .i64 n] 3) := ⟨_, rfl⟩
  have hbW : Below w.heap.size w W := by rw [hW]; exact (below4 _ _ _ _ _).alloc (by simp; omega) _
  have h0 : W.heap[s]? = some (rowT n 1 ax xs.length cx n n ap ps.length cp) := by rw [hW, heap_old _ _ _ (by simp; omega), heap_old _ _ _ (by simp; omega), heap_old _ _ _ (by simp; omega), heap_old _ _ _ (by simp; omega)]; exact heap_at _ _ _ hs.symm
  have h1 : W.heap[s + 1]? = some (rowM n n af fs.length cf) := by rw [hW, heap_old _ _ _ (by simp; omega), heap_old _ _ _ (by simp; omega), heap_old _ _ _ (by simp; omega)]; exact heap_at _ _ _ (by simp; omega)
  have h2 : W.heap[s + 1 + 1]? = some (rowM n n aq qs.length cq) := by rw [hW, heap_old _ _ _ (by simp; omega), heap_old _ _ _ (by simp; omega)]; exact heap_at _ _ _ (by simp; omega)
  have h3 : W.heap[s + 1 + 1 + 1]? = some (rowT 0 0 none 0 0 0 0 none 0 0) := by rw [hW, heap_old _ _ _ (by simp; omega)]; exact heap_at _ _ _ (by simp; omega)
  have h4 : W.cell? ⟨s + 1 + 1 + 1 + 1, 0, none⟩ = some (.int .i64 n) := by rw [hW, ← hs]; simp [go_sem]
  have hTW := ht.later hbW
  have hFW := hf.later hbW
  have hQW := hq.later hbW
  have HBW := Lib.hid hbW
  unfold rowT rowM at hW
  rw [← hW]
  clear hW ht hf hq hbW
  have r1 := rowM_cell h1
  have r2 := cells_later (rowM_cell h2).1
  have r3 := cells_later (rowM_cell h2).2.1
  have r4 := cells_later (rowM_cell h2).2.2
  have H4 := Lib.hid h4
  go_upto_region 5 with (go_at_call 103; first | (with_reducible refine (fits_any _ (s + 1 + 1 + 1 + 1) n n n _ ⟨_, _, _, rfl⟩ H4.out).mono ?_; rw [decide_eq_true rfl]; rintro e v1 ⟨rfl, hd1⟩) | (with_reducible refine (fits_any _ (s + 1 + 1 + 1 + 1) n n n _ ⟨_, _, _, rfl⟩ (cells_later H4.out _ hd1)).mono ?_; rw [decide_eq_true rfl]; rintro e v2 ⟨rfl, hd2⟩))

  obtain ⟨fb, hfb⟩ : ∃ fb, fb = v2.heap.size := ⟨_, rfl⟩
  have hd12 := below_trans2 hd1 hd2
  have hsz : s + 1 + 1 + 1 + 1 < W.heap.size := by
    cases hh : W.heap[s + 1 + 1 + 1 + 1]? with
    | none => unfold World.cell? at h4; rw [hh] at h4; cases h4
    | some o => exact lt_of_block hh
  have hsv := hd12.size
  go_upto_region 7 with fail
  obtain ⟨V0, hV0⟩ : ∃ V, V = v2.alloc (.cells #[.bool false] 129) := ⟨_, rfl⟩
  have hbV : Below W.heap.size W V0 := by rw [hV0]; exact below_al hd12 _
  have HWk0 : Hid (Wk V0 fb false) := by show _ = _; rw [hV0]; exact heap_at _ _ _ hfb
  rw [← hfb, ← hV0]
  have hfs : s + 1 + 1 + 1 + 1 < fb := by omega
  have rT := rowT_but (f := fb) (block_later h0 hbV) (by omega)
  have rF := rowM_but (f := fb) (block_later h1 hbV) (by omega)
  have rQ := rowM_but (f := fb) (block_later h2 hbV) (by omega)
  have HR := Lib.hid (block_later h3 hbV)
  have HT := Lib.hid (hTW.later hbV)
  have HF := Lib.hid (hFW.later hbV)
  have HQ := Lib.hid (hQW.later hbV)
  have HBV := Lib.hid (below_trans2 HBW.out hbV)
  have hzV : fb < V0.heap.size := HWk0.out.lt
  clear hV0 hfb hd12 hsz hsv hd1 hd2 hTW hFW hQW h0 h1 h2 h3 h4 r1 r2 r3 r4 H4 hLx hbV
  have hk0 := But.refl fb V0
  go_upto_region 8 with (first | (go_at_call 20; (refine (HMul.out _ _ _ HF.out HT.out.x).mono ?_); rintro e w1 ⟨ax', cx', rfl, hm1, hd1⟩; have hw1 := HWk0.out.later hd1; have hk1 : But fb V0 w1 := But.of_below hd1) | (go_at_call 104; (refine (wmat_any _ fb false ox n 1 0 ax' lx.length cx' hw1).mono ?_); rintro e w2 ⟨rfl, hw2, hb2⟩; have hk2 : But fb V0 w2 := hk1.trans hb2; have hm2 := hm1.but hw1 hb2))
  obtain ⟨g13, hg13⟩ : ∃ g, g = w2.heap.size := ⟨_, rfl⟩
  obtain ⟨V1, hV1⟩ : ∃ V, V = w2.alloc (rowM n 1 ax' lx.length cx') := ⟨_, rfl⟩
  have hX : V1.heap[g13]? = some (rowM n 1 ax' lx.length cx') := by rw [hV1]; exact heap_at _ _ _ hg13
  have HMX : Hid (MO V1 V0.heap.size n 1 (.slice ax' lx.length cx') lx) := by rw [hV1]; exact hm2.later (below1 _ _)
  have HWk1 : Hid (Wk V1 fb (false || ox)) := by rw [hV1]; exact hw2.later (below1 _ _)
  have hkV : But fb V0 V1 := by rw [hV1]; exact hk2.alloc _
  have hg1 : fb < g13 := by have := hk2.size; omega
  rw [← hg13]
  unfold rowM at hV1
  rw [← hV1]
  have HKV := Lib.hid hkV
  have hz1 : fb < V1.heap.size := HWk1.out.lt
  have HWd : Hid (Wk V1.drew fb (false || ox)) := HWk1.out
  have HFd : Hid (MV V1.drew n n (.slice af fs.length cf) fs) := (HF.out.but HWk0.out hkV).later (below_drew _)
  have HPd : Hid (MV V1.drew n n (.slice ap ps.length cp) ps) := (HT.out.p.but HWk0.out hkV).later (below_drew _)
  have HQ1 := Lib.hid (HQ.out.but HWk0.out hkV)
  have sF0 := fun w' h => rF.1 w' (hkV.trans h)
  have sF1 := fun w' h => rF.2.1 w' (hkV.trans h)
  have sF2 := fun w' h => rF.2.2 w' (hkV.trans h)
  have sQ0 := fun w' h => rQ.1 w' (hkV.trans h)
  have sQ1 := fun w' h => rQ.2.1 w' (hkV.trans h)
  have sQ2 := fun w' h => rQ.2.2 w' (hkV.trans h)
  have sP0 := fun w' h => rT.2.2.2.1 w' (hkV.trans h)
  have sP1 := fun w' h => rT.2.2.2.2.1 w' (hkV.trans h)
  have sP2 := fun w' h => rT.2.2.2.2.2 w' (hkV.trans h)
  have HX := Lib.hid hX
  have hnV : ¬ V1.heap.size = fb := by omega
  clear hV1 hg13 hm1 hm2 hw1 hw2 hk0 hk1 hk2 hb2 hd1 rF rQ rT hkV hX
  go_cut [14] (fun s14 wx => ∃ g a c, s14 = .pointer (some ⟨g, 0, none⟩) ∧ wx.heap[g]? = some (rowM n n a la.length c) ∧ MO wx 0 n n (.slice a la.length c) la ∧ Wk wx fb (((false || ox) || ob) || oa) ∧ But fb V1 wx)
  case first =>
    go_region_held3 (fun w' => But fb V1 w') (first | (with_reducible assumption) | (with_reducible exact but_drew _ _) | (with_reducible exact ((But.refl _ _).alloc _).drew) | (with_reducible exact (But.alloc (by with_reducible assumption) _)) | (with_reducible exact (but_drew _ _).alloc _) | (with_reducible exact But.set3 (by with_reducible assumption) (Nat.le_refl _) _ _ _) | (with_reducible exact But.set3 (by with_reducible assumption) (But.size (by with_reducible assumption)) _ _ _) | exact But.set3 (by with_reducible assumption) (But.size (fb := fb) (by with_reducible assumption)) _ _ _) (first | (go_at_call 105; first | ((with_reducible refine (HBtw.out _ fb (false || ox) _ _ (by first | exact HWd.out | exact (HWd.out).later (below1 _ _)) (by first | exact HFd.out | exact (HFd.out).later (below1 _ _)) (by first | exact HPd.out | exact (HPd.out).later (below1 _ _))).mono ?_); rintro e w1 ⟨ao1, cap1, rfl, hm1, hw1, hb1⟩; have hk1 : But fb V1 w1 := (by first | exact (but_drew _ _).trans hb1 | exact ((but_drew _ _).alloc _).trans hb1 | exact hb1 | exact ((But.refl _ _).alloc _).trans hb1); obtain ⟨hc1, hf1⟩ := hb1.cells; have hn1 : ¬ w1.heap.size = fb := (by have := hk1.size; omega); (try have hz01 : V1.heap.size < w1.heap.size := (by have := hb1.size; first | omega | (simp at this; omega))))) | (go_at_call 16; first | ((with_reducible refine (HAdd.out _ _ _ (by first | exact hm1.mv | exact (hm1.mv).later (below1 _ _)) (by first | exact (HQ1.out.but HWk1.out hk1) | exact ((HQ1.out.but HWk1.out hk1)).later (below1 _ _))).mono ?_); rintro e w2 ⟨ao2, cap2, rfl, hm2, hd2⟩; have hb2 := But.of_below (fb := fb) hd2; have hw2 : Wk w2 fb ((false || ox) || ob) := (by first | exact (hw1).later hd2 | exact ((hw1).later (below1 _ _)).later hd2); have hk2 : But fb V1 w2 := (by first | exact hk1.trans hb2 | exact (hk1.alloc _).trans hb2); obtain ⟨hc2, hf2⟩ := hb2.cells; have hn2 : ¬ w2.heap.size = fb := (by have := hk2.size; omega); (try have hz02 : V1.heap.size < w2.heap.size := (by have := hb2.size; first | omega | (simp at this; omega))); (try have hz12 : w1.heap.size < w2.heap.size := (by have := hb2.size; first | omega | (simp at this; omega))))) | (go_at_call 104; first | ((with_reducible refine (wmat_any _ fb ((false || ox) || ob) oa n n 0 ao2 la.length cap2 (by first | exact hw2 | exact (hw2).later (below1 _ _))).mono ?_); rintro e w3 ⟨rfl, hw3, hb3⟩; have hk3 : But fb V1 w3 := (by first | exact hk2.trans hb3 | exact (hk2.alloc _).trans hb3); obtain ⟨hc3, hf3⟩ := hb3.cells; have hn3 : ¬ w3.heap.size = fb := (by have := hk3.size; omega); (try have hz03 : V1.heap.size < w3.heap.size := (by have := hb3.size; first | omega | (simp at this; omega))); (try have hz13 : w1.heap.size < w3.heap.size := (by have := hb3.size; first | omega | (simp at this; omega))); (try have hz23 : w2.heap.size < w3.heap.size := (by have := hb3.size; first | omega | (simp at this; omega))); have hm3 := (by first | exact hm2.but (hw2) hb3 | exact (hm2.later (below1 _ _)).but ((hw2).later (below1 _ _)) hb3))))
    all_goals go_wp2_with fail
    all_goals go_meet
    · exact ⟨_, ao2, cap2, rfl, heap_at _ _ _ rfl, (hm3.later (below1 _ _)).low (by omega), hw3.later (below1 _ _), hk3.alloc _⟩
    · have hR := hb3.row (heap_at w2 (rowM 0 0 none 0 0) _ rfl) (by omega)
      exact ⟨_, ao2, cap2, rfl, storeM hR _ _ _ _ _, (hm3.set3 hR _ _ _).low (by omega), hw3.set3 hR _ _ _, hk3.set3 hk2.size _ _ _⟩
    · have hR := hb3.row (hb2.row (heap_at w1 (rowM 0 0 none 0 0) _ rfl) (by omega)) (by omega)
      exact ⟨_, ao2, cap2, rfl, storeM hR _ _ _ _ _, (hm3.set3 hR _ _ _).low (by omega), hw3.set3 hR _ _ _, hk3.set3 hk1.size _ _ _⟩
    · have hR := hb3.row (hb2.row (hb1.row (heap_at V1 (rowM 0 0 none 0 0) _ rfl) (by omega)) (by omega)) (by omega)
      exact ⟨_, ao2, cap2, rfl, storeM hR _ _ _ _ _, (hm3.set3 hR _ _ _).low (by omega), hw3.set3 hR _ _ _, hk3.set3 (Nat.le_refl _) _ _ _⟩
  case rest =>
    obtain ⟨g14, a14, c14, rfl, h14, hm14, hw14, hk14⟩ := hcut
    have hx13 := hk14.row HX.out (show g13 ≠ fb by omega)
    have hmx := HMX.out.but HWk1.out hk14
    have hrr := hk14.row (HKV.out.row HR.out (show s + 1 + 1 + 1 ≠ fb by omega)) (show s + 1 + 1 + 1 ≠ fb by omega)
    have hne : g14 ≠ s + 1 + 1 + 1 := fun he => by
      subst he
      rw [h14] at hrr
      simp [rowM, rowT] at hrr
    have rx := rowM_but (f := s + 1 + 1 + 1) hx13 (by omega)
    have rp := rowM_but (f := s + 1 + 1 + 1) h14 hne
    have rw' := cells_but (fb := s + 1 + 1 + 1) hw14.cell (show fb ≠ s + 1 + 1 + 1 by omega)
    have HRR := Lib.hid hrr
    have HMd : Hid (MV wc.drew n n (.slice a14 la.length c14) la) := hm14.mv.later (below_drew _)
    have HMX' := Lib.hid hmx
    have HBC := Lib.hid ((HBV.out.trans ((HKV.out.trans hk14).below (by omega) (by omega))))
    clear h14 hm14 hw14 hk14 hx13 hmx hrr hne
    go_wp2_with fail
    first | (go_region_held3 (fun w' => But (s + 1 + 1 + 1) wc w') (first | (with_reducible assumption) | (with_reducible exact hkg.setT _ _ _ _ _ _) | exact but_drew _ _) (first | (go_at_call 106; refine (HGood.out _ _ HMd.out).mono ?_; rintro e u1 ⟨ag, cg, rfl, hmg, hdg⟩; have hkg : But (s + 1 + 1 + 1) wc u1 := (but_drew _ _).trans (But.of_below hdg); have hr1 := block_later (show wc.drew.heap[s + 1 + 1 + 1]? = _ from HRR.out) hdg; have hrc := rowT_cell hr1; have hrf := rowT_frozen hr1))) | fail
    go_wp2_with fail
    have hbx := below_trans2 HBC.out (below_trans2 (below_drew _) hdg)
    refine bodyPost_ret (results_t2 rfl _ _ (s + 1 + 1 + 1) n 1 ax' lx.length cx' n n ag lg.length cg rfl (storeT hr1 _ _ _ _ _ _ _ _ _ _)) rfl ⟨ax', cx', ag, cg, ?_, ?_, ?_, ?_, ?_⟩
    · simp
    · exact (((HMX'.out.later (below_drew _)).later hdg).setT _ _ _ _ _ _ hr1).own.base (by have := HBV.out.size; omega)
    · exact (hmg.setT _ _ _ _ _ _ hr1).own.base (by have := HBC.out.size; exact this)
    · intro q o hq
      have hlt : q < wc.heap.size := by rw [hq] at HMX'; exact HMX'.out.own.block_lt
      exact (hmg.setT _ _ _ _ _ _ hr1).own.base (by show q + 1 ≤ wc.heap.size; omega)
    · exact below_setT _ _ _ _ _ _ hbx (by omega)
theorem predict_any (w : World) (n : Nat) (vx vp vf vq : Value) (xs ps fs qs : List Int) (ht : TMV w n vx vp xs ps) (hf : MV w n n vf fs) (hq : MV w n n vq qs) :
    Calls Try.prog 61 #[.agg #[.int .i64 n, .int .i64 1, vx, .int .i64 n, .int .i64 n, vp], .agg #[.int .i64 n, .int .i64 n, vf], .agg #[.int .i64 n, .int .i64 n, vq]] w (GivesTr n 1 (predX fs xs n) n n (predP fs qs ps n) (predO fs qs xs ps n) 0 w) := 
  (predict_own w n vx vp vf vq xs ps fs qs ht hf hq).mono fun _ _ h => h.tr

end Go.Proofs.Ytijohedhbbddjaa

namespace Go.Proofs.Ytijohedhbbddjaa
open Go.RowKit

theorem givesTr_no {w w' : World} {err : Int} (h : Below w.heap.size w w') : GivesTr 0 0 [] 0 0 [] false err w (.returned (.tuple #[.agg #[.int .i64 0, .int .i64 0, .slice none 0 0, .int .i64 0, .int .i64 0, .slice none 0 0], .bool false, .int .i64 err])) w' :=
  ⟨none, 0, none, 0, rfl, ⟨none, 0, rfl, Nat.le_refl _, fun i x hi => by simp at hi⟩, ⟨none, 0, rfl, Nat.le_refl _, fun i x hi => by simp at hi⟩, h⟩

set_option maxRecDepth 100000 in
set_option maxHeartbeats 2000000 in
theorem predict_no (w : World) (n xc pr pc fr fc qr qc : Int) (ax ap af aq : Option Addr) (nx cx np cp nf cf nq cq : Nat) (h : ¬ (fr = n ∧ fc = n ∧ qr = n ∧ qc = n)) :
    Calls Try.prog 61 #[.agg #[.int .i64 n, .int .i64 xc, .slice ax nx cx, .int .i64 pr, .int .i64 pc, .slice ap np cp], .agg #[.int .i64 fr, .int .i64 fc, .slice af nf cf], .agg #[.int .i64 qr, .int .i64 qc, .slice aq nq cq]] w (GivesTr 0 0 [] 0 0 [] false 9 w) := by
  obtain ⟨b1, hb1⟩ : ∃ b, (decide (fr = n) && decide (fc = n)) = b := ⟨_, rfl⟩
  obtain ⟨b2, hb2⟩ : ∃ b, (decide (qr = n) && decide (qc = n)) = b := ⟨_, rfl⟩
  have hno : (b1 && b2) = false := by
    rw [← hb1, ← hb2, Bool.eq_false_iff]
    intro hh
    simp only [Bool.and_eq_true, decide_eq_true_eq] at hh
    exact h ⟨hh.1.1, hh.1.2, hh.2.1, hh.2.2⟩
  have hF1 := fun (w : World) g v hv hg => fits_any w g n fr fc v hv hg
  have hF2 := fun (w : World) g v hv hg => fits_any w g n qr qc v hv hg
  rw [hb1] at hF1
  rw [hb2] at hF2
  have HF1 := Lib.hid hF1
  have HF2 := Lib.hid hF2
  clear h hb1 hb2 hF1 hF2
  obtain ⟨s, hs⟩ : ∃ s, w.heap.size = s := ⟨_, rfl⟩
  have main : ∀ c1 c2 : Bool, b1 = c1 → b2 = c2 → Calls Try.prog 61 #[.agg #[.int .i64 n, .int .i64 xc, .slice ax nx cx, .int .i64 pr, .int .i64 pc, .slice ap np cp], .agg #[.int .i64 fr, .int .i64 fc, .slice af nf cf], .agg #[.int .i64 qr, .int .i64 qc, .slice aq nq cq]] w (GivesTr 0 0 [] 0 0 [] false 9 w) := by
    intro c1 c2 h1 h2
    subst h1; subst h2
    have head : ∀ W, W = ((((w.alloc (rowT n xc ax nx cx pr pc ap np cp)).alloc (rowM fr fc af nf cf)).alloc (rowM qr qc aq nq cq)).alloc (rowT 0 0 none 0 0 0 0 none 0 0)).alloc (.cells #[.int .i64 n] 3) →
        W.heap[s + 1]? = some (rowM fr fc af nf cf) ∧ W.heap[s + 1 + 1]? = some (rowM qr qc aq nq cq) ∧ W.heap[s + 1 + 1 + 1]? = some (rowT 0 0 none 0 0 0 0 none 0 0) ∧ W.cell? ⟨s + 1 + 1 + 1 + 1, 0, none⟩ = some (.int .i64 n) ∧ Below w.heap.size w W := by
      intro W hW
      subst hW
      refine ⟨?_, ?_, ?_, by rw [← hs]; simp [go_sem], (below4 _ _ _ _ _).alloc (by simp; omega) _⟩
      · rw [heap_old _ _ _ (by simp; omega), heap_old _ _ _ (by simp; omega), heap_old _ _ _ (by simp; omega)]; exact heap_at _ _ _ (by simp; omega)
      · rw [heap_old _ _ _ (by simp; omega), heap_old _ _ _ (by simp; omega)]; exact heap_at _ _ _ (by simp; omega)
      · rw [heap_old _ _ _ (by simp; omega)]; exact heap_at _ _ _ (by simp; omega)
    have HH := Lib.hid head
    clear head
    cases b1
    · go_enter Try.func61, Try.ntmps61
      go_upto_region 3 with fail
      obtain ⟨W, hW⟩ : ∃ W, W = ((((w.alloc (rowT n xc ax nx cx pr pc ap np cp)).alloc (rowM fr fc af nf cf)).alloc (rowM qr qc aq nq cq)).alloc (rowT 0 0 none 0 0 0 0 none 0 0)).alloc (.cells #[.int .i64 n] 3) := ⟨_, rfl⟩
      obtain ⟨h1, h2, h3, h4, h5⟩ := HH.out W hW
      unfold rowT rowM at hW
      rw [← hW]
      clear hW
      have r1 := rowM_cell h1
      have H3 := Lib.hid h3
      have H4 := Lib.hid h4
      clear h1 h2 h3 h4
      go_wp2_with (go_at_call 103; (refine (HF1.out _ (s + 1 + 1 + 1 + 1) _ ⟨_, _, _, rfl⟩ H4.out).mono ?_); rintro e v1 ⟨rfl, hd1⟩; have hr := block_later H3.out hd1; have hrc := rowT_cell hr; have hrf := rowT_frozen hr)
      refine bodyPost_ret (results_t2 rfl _ _ (s + 1 + 1 + 1) 0 0 none 0 0 0 0 none 0 0 rfl (storeT hr _ _ _ _ _ _ _ _ _ _)) rfl (givesTr_no (below_setT _ _ _ _ _ _ (below_trans2 h5 hd1) (by omega)))
    · cases b2
      · go_enter Try.func61, Try.ntmps61
        go_upto_region 3 with fail
        obtain ⟨W, hW⟩ : ∃ W, W = ((((w.alloc (rowT n xc ax nx cx pr pc ap np cp)).alloc (rowM fr fc af nf cf)).alloc (rowM qr qc aq nq cq)).alloc (rowT 0 0 none 0 0 0 0 none 0 0)).alloc (.cells #[.int .i64 n] 3) := ⟨_, rfl⟩
        obtain ⟨h1, h2, h3, h4, h5⟩ := HH.out W hW
        unfold rowT rowM at hW
        rw [← hW]
        clear hW
        have r1 := rowM_cell h1
        have r2 := cells_later (rowM_cell h2).1
        have r3 := cells_later (rowM_cell h2).2.1
        have r4 := cells_later (rowM_cell h2).2.2
        have H3 := Lib.hid h3
        have H4 := Lib.hid h4
        clear h1 h2 h3 h4
        go_wp2_with (go_at_call 103; first | ((with_reducible refine (HF1.out _ (s + 1 + 1 + 1 + 1) _ ⟨_, _, _, rfl⟩ H4.out).mono ?_); rintro e v1 ⟨rfl, hd1⟩) | ((refine (HF2.out _ (s + 1 + 1 + 1 + 1) _ ⟨_, _, _, rfl⟩ (cells_later H4.out _ hd1)).mono ?_); rintro e v2 ⟨rfl, hd2⟩; have hr := block_later (block_later H3.out hd1) hd2; have hrc := rowT_cell hr; have hrf := rowT_frozen hr))
        refine bodyPost_ret (results_t2 rfl _ _ (s + 1 + 1 + 1) 0 0 none 0 0 0 0 none 0 0 rfl (storeT hr _ _ _ _ _ _ _ _ _ _)) rfl (givesTr_no (below_setT _ _ _ _ _ _ (below_trans2 (below_trans2 h5 hd1) hd2) (by omega)))
      · simp at hno
  exact main b1 b2 rfl rfl

/-- What is wrong with a measured number. -/
def mayN (n hr hc r : Int) : Int := if hr ≠ 1 ∨ hc ≠ n then 9 else if r ≤ 0 then 1 else 0
set_option maxHeartbeats 1000000 in
theorem may_any (w : World) (n xc pr pc hr hc r : Int) (ax ap ah : Option Addr) (nx cx np cp nh ch : Nat) :
    Calls Try.prog 109 #[.agg #[.int .i64 n, .int .i64 xc, .slice ax nx cx, .int .i64 pr, .int .i64 pc, .slice ap np cp], .agg #[.int .i64 hr, .int .i64 hc, .slice ah nh ch], .int .i64 r] w fun e w' => e = .returned (.int .i64 (mayN n hr hc r)) ∧ Below w.heap.size w w' := by
  have e7 : ∀ x y : Int, (x == y) = decide (x = y) := fun _ _ => rfl
  have e8 : ∀ x y : Int, (x != y) = !decide (x = y) := fun _ _ => rfl
  by_cases h1 : hr = 1
  · subst h1
    by_cases h2 : hc = n
    · subst h2
      by_cases h3 : r ≤ 0
      · have hm : mayN hc 1 hc r = 1 := by unfold mayN; rw [if_neg (by omega), if_pos h3]
        rw [hm]
        clear hm
        go_enter Try.func109, Try.ntmps109
        go_wp2_with fail
        go_ret
        exact ⟨rfl, below2 _ _ _⟩
      · have hm : mayN hc 1 hc r = 0 := by unfold mayN; rw [if_neg (by omega), if_neg h3]
        rw [hm]
        clear hm
        have h4 : 0 < r := by omega
        go_enter Try.func109, Try.ntmps109
        go_wp2_with fail
        go_ret
        exact ⟨rfl, below2 _ _ _⟩
    · have hm : mayN n 1 hc r = 9 := by unfold mayN; rw [if_pos (Or.inr h2)]
      rw [hm]
      clear hm
      go_enter Try.func109, Try.ntmps109
      go_wp2_with fail
      go_ret
      exact ⟨rfl, below2 _ _ _⟩
  · have hm : mayN n hr hc r = 9 := by unfold mayN; rw [if_pos (Or.inl h1)]
    rw [hm]
    clear hm
    go_enter Try.func109, Try.ntmps109
    go_wp2_with fail
    go_ret
    exact ⟨rfl, below2 _ _ _⟩

end Go.Proofs.Ytijohedhbbddjaa

namespace Go.Proofs.Ytijohedhbbddjaa
open Go.RowKit

theorem rowM_later {w : World} {g : Nat} {r c : Int} {ao : Option Addr} {n cap : Nat} (h : w.heap[g]? = some (rowM r c ao n cap)) :
    (∀ w', Below w.heap.size w w' → w'.cell? ⟨g, 0, none⟩ = some (.int .i64 r)) ∧ (∀ w', Below w.heap.size w w' → w'.cell? ⟨g, 1, none⟩ = some (.int .i64 c)) ∧ (∀ w', Below w.heap.size w w' → w'.cell? ⟨g, 2, none⟩ = some (.slice ao n cap)) :=
  ⟨cells_later (rowM_cell h).1, cells_later (rowM_cell h).2.1, cells_later (rowM_cell h).2.2⟩
theorem results_m1 {fn : Func} {p u : Tmp} (h : fn.results = #[.cell p 24, .tmp u]) (tmps : Array Value) (w : World) (g : Nat) (r c : Int) (ao : Option Addr) (n cap : Nat) (hp : tmps.getD p undef = .pointer (some ⟨g, 0, none⟩)) (hg : w.heap[g]? = some (rowM r c ao n cap)) :
    (results fn tmps).run Try.prog w = .ok (.tuple #[.agg #[.int .i64 r, .int .i64 c, .slice ao n cap], tmps.getD u undef]) w := by
  unfold rowM at hg
  exact results_row1 h tmps w g _ _ _ _ hp hg Try.underlying24 rfl (by kernel_rfl)
theorem below_set3g {B : Nat} {w w1 : World} {g : Nat} (h : Below B w w1) (hg : B ≤ g) (x y z : Value) : Below B w (((w1.setCell ⟨g, 0, none⟩ x).setCell ⟨g, 1, none⟩ y).setCell ⟨g, 2, none⟩ z) := ((h.setCell hg _).setCell hg _).setCell hg _

set_option maxRecDepth 100000 in
set_option maxHeartbeats 2000000 in
theorem rmid_any (w : World) (r n : Nat) (va vp : Value) (xs ps : List Int) (ha : MV w r n va xs) (hp : MV w n n vp ps) :
    Calls Try.prog 107 #[.agg #[.int .i64 r, .int .i64 n, va], .agg #[.int .i64 n, .int .i64 n, vp]] w (GivesSO r r (btwL xs ps r n) (btwO xs ps r n) w) := by
  obtain ⟨aa, ca, rfl, -⟩ := id ha.qs
  obtain ⟨ap, cp, rfl, -⟩ := id hp.qs
  have hM1 := fun (w : World) v v' h h' => rmul_own w r n n v v' xs ps h h'
  have hT := fun (w : World) v h => rtrans_own w r n v xs h
  unfold btwL btwO
  obtain ⟨l1, hl1⟩ : ∃ l, mulL xs ps r n n = l := ⟨_, rfl⟩
  obtain ⟨o1, ho1⟩ : ∃ l, mulLO xs ps r n n = l := ⟨_, rfl⟩
  obtain ⟨lt, hlt⟩ : ∃ l, transL xs r n = l := ⟨_, rfl⟩
  rw [hl1, ho1] at hM1
  rw [hlt] at hT
  rw [hl1, ho1, hlt]
  have hM2 := fun (w : World) v v' h h' => rmul_own w r n r v v' l1 lt h h'
  obtain ⟨l2, hl2⟩ : ∃ l, mulL l1 lt r n r = l := ⟨_, rfl⟩
  obtain ⟨o2, ho2⟩ : ∃ l, mulLO l1 lt r n r = l := ⟨_, rfl⟩
  rw [hl2, ho2] at hM2
  rw [hl2, ho2]
  have HM1 := Lib.hid hM1
  have HM2 := Lib.hid hM2
  have HTr := Lib.hid hT
  clear hl1 ho1 hlt hl2 ho2 hM1 hM2 hT
  obtain ⟨s, hs⟩ : ∃ s, w.heap.size = s := ⟨_, rfl⟩
  go_enter Try.func107, Try.ntmps107
  go_upto_region 1 with fail
  obtain ⟨V, hV⟩ : ∃ V, V = ((w.alloc (rowM r n aa xs.length ca)).alloc (rowM n n ap ps.length cp)).alloc (rowM 0 0 none 0 0) := ⟨_, rfl⟩
  have hbV : Below w.heap.size w V := by rw [hV]; exact below3 _ _ _ _
  have HBV := Lib.hid hbV
  have HA := Lib.hid (ha.later hbV)
  have HP := Lib.hid (hp.later hbV)
  have h0 : V.heap[s]? = some (rowM r n aa xs.length ca) := by rw [hV, heap_old _ _ _ (by simp; omega), heap_old _ _ _ (by simp; omega)]; exact heap_at _ _ _ hs.symm
  have h1 : V.heap[s + 1]? = some (rowM n n ap ps.length cp) := by rw [hV, heap_old _ _ _ (by simp; omega)]; exact heap_at _ _ _ (by simp; omega)
  have h2 : V.heap[s + 1 + 1]? = some (rowM 0 0 none 0 0) := by rw [hV]; exact heap_at _ _ _ (by simp; omega)
  unfold rowM at hV
  rw [← hV]
  clear hV ha hp hbV
  have c0 := rowM_cell h0
  have c1 := rowM_cell h1
  go_upto_region 2 with (go_at_call 21; (refine (HM1.out _ _ _ HA.out HP.out).mono ?_); rintro e w1 ⟨ao1, cap1, rfl, hm1, hd1⟩)
  obtain ⟨g6, hg6⟩ : ∃ g, g = w1.heap.size := ⟨_, rfl⟩
  obtain ⟨V1, hV1⟩ : ∃ V, V = w1.alloc (rowM r n ao1 l1.length cap1) := ⟨_, rfl⟩
  have h6 : V1.heap[g6]? = some (rowM r n ao1 l1.length cap1) := by rw [hV1]; exact heap_at _ _ _ hg6
  have hbV1 : Below V.heap.size V V1 := by rw [hV1]; exact below_al hd1 _
  have HM6 : Hid (MO V1 V.heap.size r n (.slice ao1 l1.length cap1) l1) := by rw [hV1]; exact hm1.later (below1 _ _)
  rw [← hg6]
  unfold rowM at hV1
  rw [← hV1]
  have r6 := rowM_later h6
  have r0 := rowM_later (block_later h0 hbV1)
  have HR := Lib.hid (block_later h2 hbV1)
  have HA1 := Lib.hid (HA.out.later hbV1)
  have HB1 := Lib.hid (below_trans2 HBV.out hbV1)
  have hz1 : s + 1 + 1 < V1.heap.size := lt_of_block (block_later h2 hbV1)
  clear hV1 hg6 hm1 hd1 h0 h1 h2 h6 c0 c1 hbV1
  go_cut [9, 10] (fun s9 s10 wx => ∃ g a c, s9 = .pointer (some ⟨g, 0, none⟩) ∧ s10 = .bool o2 ∧ wx.heap[g]? = some (rowM r r a l2.length c) ∧ MO wx V1.heap.size r r (.slice a l2.length c) l2 ∧ Below V1.heap.size V1 wx)
  case first =>
    go_region_held3 (fun w' => Below V1.heap.size V1 w') (first | (with_reducible assumption) | (with_reducible exact below_drew _) | (with_reducible exact (below1 _ _).drew) | (with_reducible exact below_al (by with_reducible assumption) _) | (with_reducible exact below_al (below_drew _) _) | (with_reducible exact below_set3 (by with_reducible assumption) (Nat.le_refl _) _ _ _) | (with_reducible exact below_set3 (by with_reducible assumption) (Below.size (by with_reducible assumption)) _ _ _) | exact below_set3 (by assumption) (Below.size (B := V1.heap.size) (by assumption)) _ _ _) (first | (go_at_call 37; (refine (HTr.out _ _ (HA1.out.later (by first | exact below_drew _ | exact (below1 _ _).drew | exact below_al (below_drew _) _ | assumption))).mono ?_); rintro e w2 ⟨ao2, cap2, rfl, hm2, hd2⟩; obtain ⟨hc2, hf2⟩ := bcell hd2; have hk2 : Below V1.heap.size V1 w2 := (by first | exact below_tr2 hd2 (below_drew _) | exact below_tr2 hd2 (below1 _ _).drew | exact below_tr2 hd2 (below_al (below_drew _) _)); (try have hz2 : V1.heap.size < w2.heap.size := (by have := hd2.size; first | omega | (simp at this; omega)))) | (go_at_call 21; (refine (HM2.out _ _ _ (by first | exact (HM6.out.later hk2).mv | exact ((HM6.out.later hk2).later (below1 _ _)).mv) (by first | exact hm2.mv | exact (hm2.later (below1 _ _)).mv)).mono ?_); rintro e w3 ⟨ao3, cap3, rfl, hm3, hd3⟩; obtain ⟨hc3, hf3⟩ := bcell hd3; have hk3 : Below V1.heap.size V1 w3 := (by first | exact below_tr2 hd3 hk2 | exact below_tr2 hd3 (below_al hk2 _)); (try have hz3 : w2.heap.size < w3.heap.size := (by have := hd3.size; first | omega | (simp at this; omega))); (try have hz13 : V1.heap.size < w3.heap.size := (by have := hd3.size; first | omega | (simp at this; omega)))))
    all_goals go_wp2_with fail
    all_goals go_meet
    · exact ⟨_, ao3, cap3, rfl, rfl, heap_at _ _ _ rfl, (hm3.later (below1 _ _)).low hk2.size, below_al hk3 _⟩
    · have hR := block_later (heap_at w2 (rowM 0 0 none 0 0) _ rfl) hd3
      exact ⟨_, ao3, cap3, rfl, rfl, storeM hR _ _ _ _ _, (hm3.set3 hR _ _ _).low (by have := hk2.size; simp; omega), below_set3 hk3 hk2.size _ _ _⟩
    · have hR := block_later (block_later (heap_at V1 (rowM 0 0 none 0 0) _ rfl) (below_tr2 hd2 (below_drew _))) hd3
      exact ⟨_, ao3, cap3, rfl, rfl, storeM hR _ _ _ _ _, (hm3.set3 hR _ _ _).low hk2.size, below_set3 hk3 (Nat.le_refl _) _ _ _⟩
  case rest =>
    obtain ⟨g9, a9, c9, rfl, rfl, h9, hm9, hk9⟩ := hcut
    have r9 := rowM_cell h9
    have hrr := block_later HR.out hk9
    have rr := rowM_cell hrr
    have rf := rowM_frozen hrr
    have HRR := Lib.hid hrr
    clear h9 hrr
    go_wp2_with fail
    all_goals
      refine bodyPost_ret (results_m1 rfl _ _ (s + 1 + 1) r r a9 l2.length c9 rfl (storeM HRR.out _ _ _ _ _)) rfl ⟨a9, c9, ?_, ?_, ?_⟩
      · simp [*]
      · exact (hm9.set3 HRR.out _ _ _).low (by have := HB1.out.size; omega)
      · exact below_set3 (below_trans2 HB1.out hk9) (by omega) _ _ _


end Go.Proofs.Ytijohedhbbddjaa

namespace Go.Proofs.Ytijohedhbbddjaa
open Go.RowKit

theorem rmul_col (w : World) (r n : Nat) (v v' : Value) (fs xs : List Int) (h : MV w r n v fs) (h' : MV w n 1 v' xs) :
    Calls Try.prog 21 #[.agg #[.int .i64 r, .int .i64 n, v], .agg #[.int .i64 n, .int .i64 1, v']] w fun e w' =>
      ∃ ao cap, e = .returned (.tuple #[.agg #[.int .i64 r, .int .i64 1, .slice ao (mulL fs xs r n 1).length cap], .bool (mulLO fs xs r n 1), .int .i64 0]) ∧ MO w' w.heap.size r 1 (.slice ao (mulL fs xs r n 1).length cap) (mulL fs xs r n 1) ∧ Below w.heap.size w w' :=
  rmul_own w r n 1 v v' fs xs h h'

set_option maxRecDepth 100000 in
set_option maxHeartbeats 4000000 in
theorem rpredict_any (w : World) (n : Nat) (vx vp vf vq : Value) (xs ps fs qs : List Int) (ht : TMV w n vx vp xs ps) (hf : MV w n n vf fs) (hq : MV w n n vq qs) :
    Calls Try.prog 62 #[.agg #[.int .i64 n, .int .i64 1, vx, .int .i64 n, .int .i64 n, vp], .agg #[.int .i64 n, .int .i64 n, vf], .agg #[.int .i64 n, .int .i64 n, vq]] w (GivesTr n 1 (predX fs xs n) n n (predP fs qs ps n) (predO fs qs xs ps n) 0 w) := by
  obtain ⟨ax, cx, rfl, -⟩ := id ht.x.qs
  obtain ⟨ap, cp, rfl, -⟩ := id ht.p.qs
  obtain ⟨af, cf, rfl, -⟩ := id hf.qs
  obtain ⟨aq, cq, rfl, -⟩ := id hq.qs
  have hn8 := hf.hr
  unfold predX predP predO
  have hMul := fun (w : World) v v' h h' => rmul_col w n n v v' fs xs h h'
  obtain ⟨lx, hlx⟩ : ∃ l, mulL fs xs n n 1 = l := ⟨_, rfl⟩
  obtain ⟨ox, hox⟩ : ∃ l, mulLO fs xs n n 1 = l := ⟨_, rfl⟩
  rw [hlx, hox] at hMul
  rw [hlx, hox]
  have hBtw := fun (w : World) v v' h h' => rmid_any w n n v v' fs ps h h'
  obtain ⟨lb, hlb⟩ : ∃ l, btwL fs ps n n = l := ⟨_, rfl⟩
  obtain ⟨ob, hob⟩ : ∃ l, btwO fs ps n n = l := ⟨_, rfl⟩
  rw [hlb, hob] at hBtw
  rw [hlb, hob]
  have hAdd := fun (w : World) v v' h h' => radd_own w n n v v' lb qs h h'
  have hIn := eachAdd_inQ lb qs n n
  obtain ⟨la, hla⟩ : ∃ l, eachL addQ lb qs n n = l := ⟨_, rfl⟩
  obtain ⟨oa, hoa⟩ : ∃ l, eachO addO lb qs n n = l := ⟨_, rfl⟩
  rw [hla, hoa] at hAdd
  rw [hla] at hIn
  rw [hla, hoa]
  have hGood := fun (w : World) v h => rgood_any w n v la h hIn
  obtain ⟨lg, hlg⟩ : ∃ l, goodL la n = l := ⟨_, rfl⟩
  rw [hlg] at hGood
  rw [hlg]
  have HMul := Lib.hid hMul
  have HBtw := Lib.hid hBtw
  have HAdd := Lib.hid hAdd
  have HGood := Lib.hid hGood
  clear hlx hox hlb hob hla hoa hlg hMul hBtw hAdd hGood hIn
  have e8 : ∀ x y : Int, (x != y) = !decide (x = y) := fun _ _ => rfl
  obtain ⟨s, hs⟩ : ∃ s, w.heap.size = s := ⟨_, rfl⟩
  go_enter Try.func62, Try.ntmps62
  go_upto_region 4 with fail
  obtain ⟨W, hW⟩ : ∃ W, W = (((w.alloc (rowT n 1 ax xs.length cx n n ap ps.length cp)).alloc (rowM n n af fs.length cf)).alloc (rowM n n aq qs.length cq)).alloc (rowT 0 0 none 0 0 0 0 none 0 0) := ⟨_, rfl⟩
  have hbW : Below w.heap.size w W := by rw [hW]; exact below4 _ _ _ _ _
  have H0 : Hid (W.heap[s]? = some (rowT n 1 ax xs.length cx n n ap ps.length cp)) := by show _ = _; rw [hW, heap_old _ _ _ (by simp; omega), heap_old _ _ _ (by simp; omega), heap_old _ _ _ (by simp; omega)]; exact heap_at _ _ _ hs.symm
  have H1 : Hid (W.heap[s + 1]? = some (rowM n n af fs.length cf)) := by show _ = _; rw [hW, heap_old _ _ _ (by simp; omega), heap_old _ _ _ (by simp; omega)]; exact heap_at _ _ _ (by simp; omega)
  have H2 : Hid (W.heap[s + 1 + 1]? = some (rowM n n aq qs.length cq)) := by show _ = _; rw [hW, heap_old _ _ _ (by simp; omega)]; exact heap_at _ _ _ (by simp; omega)
  have H3 : Hid (W.heap[s + 1 + 1 + 1]? = some (rowT 0 0 none 0 0 0 0 none 0 0)) := by show _ = _; rw [hW]; exact heap_at _ _ _ (by simp; omega)
  have HT := Lib.hid (ht.later hbW)
  have HF := Lib.hid (hf.later hbW)
  have HQ := Lib.hid (hq.later hbW)
  have HB := Lib.hid hbW
  unfold rowT rowM at hW
  rw [← hW]
  clear hW ht hf hq hbW
  have c0 := rowT_cell H0.out
  have c1 := rowM_cell H1.out
  go_upto_region 5 with (go_at_call 21; (refine (HMul.out _ _ _ HF.out HT.out.x).mono ?_); rintro e w1 ⟨a1, k1, rfl, hm1, hd1⟩)

  obtain ⟨g1, hg1⟩ : ∃ g, g = w1.heap.size := ⟨_, rfl⟩
  have hgz1 : W.heap.size ≤ g1 := by rw [hg1]; exact hd1.size
  obtain ⟨V1, hV1⟩ : ∃ V, V = w1.alloc (rowM n 1 a1 lx.length k1) := ⟨_, rfl⟩
  have HX1 : Hid (V1.heap[g1]? = some (rowM n 1 a1 lx.length k1)) := by show _ = _; rw [hV1]; exact heap_at _ _ _ hg1
  have HS1 : Hid (Below W.heap.size W V1) := by rw [hV1]; exact below_al hd1 _
  have HM1 : Hid (MO V1 W.heap.size n 1 (.slice a1 lx.length k1) lx) := by rw [hV1]; exact hm1.later (below1 _ _)
  rw [← hg1]
  unfold rowM at hV1
  rw [← hV1]
  clear hV1 hg1 hm1 hd1
  clear c0 c1
  have HT1 := Lib.hid (HT.out.later HS1.out)
  have HF1 := Lib.hid (HF.out.later HS1.out)
  have c0 := rowT_cell (block_later H0.out HS1.out)
  have c1 := rowM_cell (block_later H1.out HS1.out)
  go_upto_region 6 with (go_at_call 107; (refine (HBtw.out _ _ _ HF1.out HT1.out.p).mono ?_); rintro e w2 ⟨a2, k2, rfl, hm2, hd2⟩)
  obtain ⟨g2, hg2⟩ : ∃ g, g = w2.heap.size := ⟨_, rfl⟩
  have hgz2 : V1.heap.size ≤ g2 := by rw [hg2]; exact hd2.size
  obtain ⟨V2, hV2⟩ : ∃ V, V = w2.alloc (rowM n n a2 lb.length k2) := ⟨_, rfl⟩
  have HX2 : Hid (V2.heap[g2]? = some (rowM n n a2 lb.length k2)) := by show _ = _; rw [hV2]; exact heap_at _ _ _ hg2
  have HS2 : Hid (Below V1.heap.size V1 V2) := by rw [hV2]; exact below_al hd2 _
  have HM2 : Hid (MO V2 V1.heap.size n n (.slice a2 lb.length k2) lb) := by rw [hV2]; exact hm2.later (below1 _ _)
  rw [← hg2]
  unfold rowM at hV2
  rw [← hV2]
  clear hV2 hg2 hm2 hd2
  clear c0 c1
  have HQ2 := Lib.hid ((HQ.out.later HS1.out).later HS2.out)
  have c2 := rowM_cell (block_later (block_later H2.out HS1.out) HS2.out)
  have x2 := rowM_cell HX2.out
  go_upto_region 7 with (go_at_call 17; (refine (HAdd.out _ _ _ HM2.out.mv HQ2.out).mono ?_); rintro e w3 ⟨a3, k3, rfl, hm3, hd3⟩)
  obtain ⟨g3, hg3⟩ : ∃ g, g = w3.heap.size := ⟨_, rfl⟩
  have hgz3 : V2.heap.size ≤ g3 := by rw [hg3]; exact hd3.size
  obtain ⟨V3, hV3⟩ : ∃ V, V = w3.alloc (rowM n n a3 la.length k3) := ⟨_, rfl⟩
  have HX3 : Hid (V3.heap[g3]? = some (rowM n n a3 la.length k3)) := by show _ = _; rw [hV3]; exact heap_at _ _ _ hg3
  have HS3 : Hid (Below V2.heap.size V2 V3) := by rw [hV3]; exact below_al hd3 _
  have HM3 : Hid (MO V3 V2.heap.size n n (.slice a3 la.length k3) la) := by rw [hV3]; exact hm3.later (below1 _ _)
  rw [← hg3]
  unfold rowM at hV3
  rw [← hV3]
  clear hV3 hg3 hm3 hd3
  clear c2 x2
  have HR := Lib.hid (block_later (block_later (block_later H3.out HS1.out) HS2.out) HS3.out)
  have HX1' := Lib.hid (block_later (block_later HX1.out HS2.out) HS3.out)
  have HM1' := Lib.hid ((HM1.out.later HS2.out).later HS3.out)
  have hz : s + 1 + 1 + 1 < W.heap.size := lt_of_block H3.out
  have hb1 := HS1.out.size
  have hb2 := HS2.out.size
  have x1 := rowM_but (f := s + 1 + 1 + 1) HX1'.out (by omega)
  have x3 := rowM_but (f := s + 1 + 1 + 1) HX3.out (by omega)
  have HMd : Hid (MV V3.drew n n (.slice a3 la.length k3) la) := HM3.out.mv.later (below_drew _)
  have HBC := Lib.hid (below_trans2 (below_trans2 (below_trans2 HB.out HS1.out) HS2.out) HS3.out)
  have hbs := HBC.out.size
  cases ox <;> cases ob
  all_goals
    first | (go_region_held (fun w' => But (s + 1 + 1 + 1) V3 w') (first | (with_reducible assumption) | (with_reducible exact hkg.setT _ _ _ _ _ _) | exact but_drew _ _) (first | (go_at_call 108; refine (HGood.out _ _ HMd.out).mono ?_; rintro e u1 ⟨ag, cg, rfl, hmg, hdg⟩; have hkg : But (s + 1 + 1 + 1) V3 u1 := (but_drew _ _).trans (But.of_below hdg); have hr1 := block_later (show V3.drew.heap[s + 1 + 1 + 1]? = _ from HR.out) hdg; have hrc := rowT_cell hr1; have hrf := rowT_frozen hr1))) | fail
  all_goals
    go_wp2_with fail
    have hbx := below_trans2 HBC.out (below_trans2 (below_drew _) hdg)
    refine bodyPost_ret (results_t2 rfl _ _ (s + 1 + 1 + 1) n 1 a1 lx.length k1 n n ag lg.length cg rfl (storeT hr1 _ _ _ _ _ _ _ _ _ _)) rfl ⟨a1, k1, ag, cg, ?_, ?_, ?_, ?_⟩
    · simp
    · exact (((HM1'.out.later (below_drew _)).later hdg).setT _ _ _ _ _ _ hr1).own.qs
    · exact (hmg.setT _ _ _ _ _ _ hr1).own.qs
    · exact below_setT _ _ _ _ _ _ hbx (by omega)

set_option maxRecDepth 100000 in
set_option maxHeartbeats 2000000 in
theorem rpredict_no (w : World) (n xc pr pc fr fc qr qc : Int) (ax ap af aq : Option Addr) (nx cx np cp nf cf nq cq : Nat) (h : ¬ (fr = n ∧ fc = n ∧ qr = n ∧ qc = n)) :
    Calls Try.prog 62 #[.agg #[.int .i64 n, .int .i64 xc, .slice ax nx cx, .int .i64 pr, .int .i64 pc, .slice ap np cp], .agg #[.int .i64 fr, .int .i64 fc, .slice af nf cf], .agg #[.int .i64 qr, .int .i64 qc, .slice aq nq cq]] w (GivesTr 0 0 [] 0 0 [] false 9 w) := by
  obtain ⟨s, hs⟩ : ∃ s, w.heap.size = s := ⟨_, rfl⟩
  have e8 : ∀ x y : Int, (x != y) = !decide (x = y) := fun _ _ => rfl
  by_cases h1 : fr = n
  · by_cases h2 : fc = n
    · by_cases h3 : qr = n
      · have h4 : ¬ qc = n := fun h4 => h ⟨h1, h2, h3, h4⟩
        clear h
        subst h1; subst h2; subst h3
        go_enter Try.func62, Try.ntmps62
        go_wp2_with fail
        refine bodyPost_ret (results_t2 rfl _ _ (s + 1 + 1 + 1) 0 0 none 0 0 0 0 none 0 0 rfl (heap_at _ _ _ (by simp; omega))) rfl (givesTr_no (below4 _ _ _ _ _))
      · clear h
        subst h1; subst h2
        go_enter Try.func62, Try.ntmps62
        go_wp2_with fail
        refine bodyPost_ret (results_t2 rfl _ _ (s + 1 + 1 + 1) 0 0 none 0 0 0 0 none 0 0 rfl (heap_at _ _ _ (by simp; omega))) rfl (givesTr_no (below4 _ _ _ _ _))
    · clear h
      subst h1
      go_enter Try.func62, Try.ntmps62
      go_wp2_with fail
      refine bodyPost_ret (results_t2 rfl _ _ (s + 1 + 1 + 1) 0 0 none 0 0 0 0 none 0 0 rfl (heap_at _ _ _ (by simp; omega))) rfl (givesTr_no (below4 _ _ _ _ _))
  · clear h
    go_enter Try.func62, Try.ntmps62
    go_wp2_with fail
    refine bodyPost_ret (results_t2 rfl _ _ (s + 1 + 1 + 1) 0 0 none 0 0 0 0 none 0 0 rfl (heap_at _ _ _ (by simp; omega))) rfl (givesTr_no (below4 _ _ _ _ _))

set_option maxHeartbeats 1000000 in
theorem rsame5_any (w : World) (xr xc pr pc : Int) (ax ap bx bp : Option Addr) (cx cp dx dp : Nat) (xs ps : List Int) (h1 : QS w (.slice ax xs.length cx) xs) (h2 : QS w (.slice bx xs.length dx) xs) (h3 : QS w (.slice ap ps.length cp) ps) (h4 : QS w (.slice bp ps.length dp) ps) (hl : xs.length ≤ 9223372036854775807) (hl' : ps.length ≤ 9223372036854775807) :
    Calls Try.prog 67 #[.agg #[.int .i64 xr, .int .i64 xc, .slice ax xs.length cx, .int .i64 pr, .int .i64 pc, .slice ap ps.length cp], .agg #[.int .i64 xr, .int .i64 xc, .slice bx xs.length dx, .int .i64 pr, .int .i64 pc, .slice bp ps.length dp]] w fun e w' => e = .returned (.bool true) ∧ Below w.heap.size w w' := by
  obtain ⟨W, hW⟩ : ∃ W, W = (w.alloc (rowT xr xc ax xs.length cx pr pc ap ps.length cp)).alloc (rowT xr xc bx xs.length dx pr pc bp ps.length dp) := ⟨_, rfl⟩
  have hbW : Below w.heap.size w W := by rw [hW]; exact below2 _ _ _
  obtain ⟨s, hs⟩ : ∃ s, w.heap.size = s := ⟨_, rfl⟩
  have g0 : W.heap[s]? = some (rowT xr xc ax xs.length cx pr pc ap ps.length cp) := by rw [hW, heap_old _ _ _ (by simp; omega)]; exact heap_at _ _ _ hs.symm
  have g1 : W.heap[s + 1]? = some (rowT xr xc bx xs.length dx pr pc bp ps.length dp) := by rw [hW]; exact heap_at _ _ _ (by simp; omega)
  have H1 := Lib.hid (h1.later hbW)
  have H2 := Lib.hid (h2.later hbW)
  have H3 := Lib.hid (h3.later hbW)
  have H4 := Lib.hid (h4.later hbW)
  have HB := Lib.hid hbW
  have c0 := rowT_cell g0
  have c1 := rowT_cell g1
  have k0 := cells_later c0.2.2.2.1
  have k1 := cells_later c0.2.2.2.2.1
  have k2 := cells_later c0.2.2.2.2.2
  have m0 := cells_later c1.2.2.2.1
  have m1 := cells_later c1.2.2.2.2.1
  have m2 := cells_later c1.2.2.2.2.2
  clear h1 h2 h3 h4 g0 g1 hbW
  go_enter Try.func67, Try.ntmps67
  go_upto_region 1 with fail
  unfold rowT at hW
  rw [← hW]
  clear hW
  go_wp2_with (go_at_call 15; first | ((with_reducible refine (rsame_any _ xr xc xr xc _ _ xs xs H1.out H2.out hl hl).mono ?_); rw [sameB_self]; rintro e w1 ⟨rfl, hd1⟩) | ((with_reducible refine (rsame_any _ pr pc pr pc _ _ ps ps (H3.out.later hd1) (H4.out.later hd1) hl' hl').mono ?_); rw [sameB_self]; rintro e w2 ⟨rfl, hd2⟩))
  go_ret
  exact ⟨rfl, below_trans2 HB.out (below_trans2 hd1 hd2)⟩

end Go.Proofs.Ytijohedhbbddjaa

namespace Go.Proofs.Ytijohedhbbddjaa
open Go.RowKit

def inY (hs xs : List Int) (z : Int) (n : Nat) : Int := subQ z ((mulL hs xs 1 n 1).getD 0 0)
def inS (hs ps : List Int) (r : Int) (n : Nat) : Int := addQ ((btwL hs ps 1 n).getD 0 0) r
def inO (hs xs ps : List Int) (z r : Int) (n : Nat) : Bool := ((mulLO hs xs 1 n 1 || subO z ((mulL hs xs 1 n 1).getD 0 0)) || btwO hs ps 1 n) || addO ((btwL hs ps 1 n).getD 0 0) r

theorem mmul_11 (w : World) (n : Nat) (v v' : Value) (hs xs : List Int) (h : MV w 1 n v hs) (h' : MV w n 1 v' xs) :
    Calls Try.prog 20 #[.agg #[.int .i64 1, .int .i64 n, v], .agg #[.int .i64 n, .int .i64 1, v']] w fun e w' =>
      ∃ ao cap, e = .returned (.tuple #[.agg #[.int .i64 1, .int .i64 1, .slice ao (mulL hs xs 1 n 1).length cap], .bool (mulLO hs xs 1 n 1), .int .i64 0]) ∧ MO w' w.heap.size 1 1 (.slice ao (mulL hs xs 1 n 1).length cap) (mulL hs xs 1 n 1) ∧ Below w.heap.size w w' :=
  mmul_own w 1 n 1 v v' hs xs h h'
theorem rmul_11 (w : World) (n : Nat) (v v' : Value) (hs xs : List Int) (h : MV w 1 n v hs) (h' : MV w n 1 v' xs) :
    Calls Try.prog 21 #[.agg #[.int .i64 1, .int .i64 n, v], .agg #[.int .i64 n, .int .i64 1, v']] w fun e w' =>
      ∃ ao cap, e = .returned (.tuple #[.agg #[.int .i64 1, .int .i64 1, .slice ao (mulL hs xs 1 n 1).length cap], .bool (mulLO hs xs 1 n 1), .int .i64 0]) ∧ MO w' w.heap.size 1 1 (.slice ao (mulL hs xs 1 n 1).length cap) (mulL hs xs 1 n 1) ∧ Below w.heap.size w w' :=
  rmul_own w 1 n 1 v v' hs xs h h'
theorem between_1 (w : World) (fb : Nat) (b : Bool) (n : Nat) (va vp : Value) (hs ps : List Int) (hw : Wk w fb b) (ha : MV w 1 n va hs) (hp : MV w n n vp ps) :
    Calls Try.prog 105 #[.pointer (some ⟨fb, 0, none⟩), .agg #[.int .i64 1, .int .i64 n, va], .agg #[.int .i64 n, .int .i64 n, vp]] w fun e w' =>
      ∃ ao cap, e = .returned (.agg #[.int .i64 1, .int .i64 1, .slice ao (btwL hs ps 1 n).length cap]) ∧ MO w' 0 1 1 (.slice ao (btwL hs ps 1 n).length cap) (btwL hs ps 1 n) ∧ Wk w' fb (b || btwO hs ps 1 n) ∧ But fb w w' :=
  between_any w fb b 1 n va vp hs ps hw ha hp
theorem rmid_1 (w : World) (n : Nat) (va vp : Value) (hs ps : List Int) (ha : MV w 1 n va hs) (hp : MV w n n vp ps) :
    Calls Try.prog 107 #[.agg #[.int .i64 1, .int .i64 n, va], .agg #[.int .i64 n, .int .i64 n, vp]] w fun e w' =>
      ∃ ao cap, e = .returned (.tuple #[.agg #[.int .i64 1, .int .i64 1, .slice ao (btwL hs ps 1 n).length cap], .bool (btwO hs ps 1 n)]) ∧ MO w' w.heap.size 1 1 (.slice ao (btwL hs ps 1 n).length cap) (btwL hs ps 1 n) ∧ Below w.heap.size w w' :=
  rmid_any w 1 n va vp hs ps ha hp
theorem MO.first {w : World} {base : Nat} {ao : Option Addr} {cap : Nat} {l : List Int} (h : MO w base 1 1 (.slice ao l.length cap) l) : l.length = 1 ∧ ∃ b off, ao = some ⟨b, off, none⟩ ∧ w.cell? ⟨b, off, none⟩ = some (.int .i64 (l.getD 0 0)) := by
  have hl : l.length = 1 := by have := h.len; omega
  obtain ⟨b, off, cap', he, hc⟩ := QS.cell h.own.qs (i := 0) (by omega)
  injection he with e1 e2 e3
  refine ⟨hl, b, off, e1, ?_⟩
  rw [List.getD_eq_getElem?_getD, List.getElem?_eq_getElem (by omega)]
  simpa using hc

theorem field_l (r c : Int) (ao : Option Addr) (n cap : Nat) (w : World) : Sem.run Try.prog (Instr.field 24 (.agg #[.int .i64 r, .int .i64 c, .slice ao n cap]) 2) w = .ok (.slice ao n cap) w := by kernel_rfl

set_option maxRecDepth 100000 in
set_option maxHeartbeats 2000000 in
theorem winnov_any (w : World) (fb : Nat) (b : Bool) (n : Nat) (vx vp vh : Value) (xs ps hs : List Int) (z r : Int) (hw : Wk w fb b) (ht : TMV w n vx vp xs ps) (hh : MV w 1 n vh hs) :
    Calls Try.prog 110 #[.pointer (some ⟨fb, 0, none⟩), .agg #[.int .i64 n, .int .i64 1, vx, .int .i64 n, .int .i64 n, vp], .agg #[.int .i64 1, .int .i64 n, vh], .int .i64 z, .int .i64 r] w fun e w' =>
      e = .returned (.tuple #[.int .i64 (inY hs xs z n), .int .i64 (inS hs ps r n)]) ∧ Wk w' fb (b || inO hs xs ps z r n) ∧ But fb w w' := by
  obtain ⟨ax, cx, rfl, -⟩ := id ht.x.qs
  obtain ⟨ap, cp, rfl, -⟩ := id ht.p.qs
  obtain ⟨ah, ch, rfl, -⟩ := id hh.qs
  have hMul := fun (w : World) v v' h h' => mmul_11 w n v v' hs xs h h'
  have hBtw := fun (w : World) fb b v v' h h' h'' => between_1 w fb b n v v' hs ps h h' h''
  unfold inY inS inO
  obtain ⟨lx, hlx⟩ : ∃ l, mulL hs xs 1 n 1 = l := ⟨_, rfl⟩
  obtain ⟨ox, hox⟩ : ∃ l, mulLO hs xs 1 n 1 = l := ⟨_, rfl⟩
  rw [hlx, hox] at hMul
  rw [hlx, hox]
  obtain ⟨lb, hlb⟩ : ∃ l, btwL hs ps 1 n = l := ⟨_, rfl⟩
  obtain ⟨ob, hob⟩ : ∃ l, btwO hs ps 1 n = l := ⟨_, rfl⟩
  rw [hlb, hob] at hBtw
  rw [hlb, hob]
  have HMul := Lib.hid hMul
  have HBtw := Lib.hid hBtw
  clear hlx hox hlb hob hMul hBtw
  obtain ⟨q0, hq0⟩ : ∃ q, lx.getD 0 0 = q := ⟨_, rfl⟩
  obtain ⟨q1, hq1⟩ : ∃ q, lb.getD 0 0 = q := ⟨_, rfl⟩
  rw [hq0, hq1]
  obtain ⟨y, hy⟩ : ∃ y, subQ z q0 = y := ⟨_, rfl⟩
  obtain ⟨yo, hyo⟩ : ∃ y, subO z q0 = y := ⟨_, rfl⟩
  obtain ⟨sv, hsv⟩ : ∃ y, addQ q1 r = y := ⟨_, rfl⟩
  obtain ⟨so, hso⟩ : ∃ y, addO q1 r = y := ⟨_, rfl⟩
  have HQ0 := Lib.hid hq0
  have HQ1 := Lib.hid hq1
  have HY := Lib.hid (And.intro hy hyo)
  have HSv := Lib.hid (And.intro hsv hso)
  rw [hy, hyo, hsv, hso]
  clear hq0 hq1 hy hyo hsv hso
  obtain ⟨s, hsz⟩ : ∃ s, w.heap.size = s := ⟨_, rfl⟩
  have hfs := hw.lt
  obtain ⟨V, hV⟩ : ∃ V, V = (w.alloc (rowT n 1 ax xs.length cx n n ap ps.length cp)).alloc (rowM 1 n ah hs.length ch) := ⟨_, rfl⟩
  have hbV : Below w.heap.size w V := by rw [hV]; exact below2 _ _ _
  have h0 : V.heap[s]? = some (rowT n 1 ax xs.length cx n n ap ps.length cp) := by rw [hV, heap_old _ _ _ (by simp; omega)]; exact heap_at _ _ _ hsz.symm
  have h1 : V.heap[s + 1]? = some (rowM 1 n ah hs.length ch) := by rw [hV]; exact heap_at _ _ _ (by simp; omega)
  have HT := Lib.hid (ht.later hbV)
  have HH := Lib.hid (hh.later hbV)
  have HWV := Lib.hid (hw.later hbV)
  have HKV := Lib.hid (But.of_below (fb := fb) hbV)
  have rT := rowT_but (f := fb) h0 (by omega)
  have rH := rowM_but (f := fb) h1 (by omega)
  have hk0 := But.refl fb V
  clear ht hh hw hbV h0 h1
  have fl := field_l
  go_enter Try.func110, Try.ntmps110
  go_upto_region 1 with fail
  unfold rowT rowM at hV
  rw [← hV]
  clear hV
  go_wp2_with (first | (go_at_call 20; (refine (HMul.out _ _ _ HH.out HT.out.x).mono ?_); rintro e w1 ⟨ao1, cap1, rfl, hm1, hd1⟩; have hk1 : But fb V w1 := But.of_below hd1; have hw1 := HWV.out.later hd1) | (go_at_call 104; (refine (wmat_any _ fb b ox 1 1 0 ao1 lx.length cap1 hw1).mono ?_); rintro e w2 ⟨rfl, hw2, hb2⟩; have hk2 : But fb V w2 := hk1.trans hb2; obtain ⟨hl2, bq, oq, rfl, hc2⟩ := (hm1.but hw1 hb2).first; rw [HQ0.out] at hc2) | (go_at_call 39; refine (sub_any z q0 _).mono ?_; rw [HY.out.1, HY.out.2]; rintro e v ⟨rfl, rfl⟩) | (go_at_call 111; first | ((with_reducible refine (wone_any _ fb (b || ox) yo y hw2).mono ?_); rintro e w3 ⟨rfl, hw3, hb3⟩; have hk3 : But fb V w3 := hk2.trans hb3; clear hc2) | ((with_reducible refine (wone_any _ fb (((b || ox) || yo) || ob) so sv hw4).mono ?_); rintro e w5 ⟨rfl, hw5, hb5⟩; have hk5 : But fb V w5 := hk4.trans hb5)) | (go_at_call 105; (refine (HBtw.out _ fb ((b || ox) || yo) _ _ hw3 (HH.out.but HWV.out hk3) (HT.out.p.but HWV.out hk3)).mono ?_); rintro e w4 ⟨ao4, cap4, rfl, hm4, hw4, hb4⟩; have hk4 : But fb V w4 := hk3.trans hb4; obtain ⟨hl4, b4, o4, rfl, hc4⟩ := hm4.first; rw [HQ1.out] at hc4) | (go_at_call 24; refine (add_any q1 r _).mono ?_; rw [HSv.out.1, HSv.out.2]; rintro e v ⟨rfl, rfl⟩))
  go_ret2
  exact ⟨rfl, by simpa [Bool.or_assoc] using hw5, HKV.out.trans hk5⟩

end Go.Proofs.Ytijohedhbbddjaa
