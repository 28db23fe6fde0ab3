/- Texts of this claim, part 28: contracts of the functions that the law reaches. -/
import Derived.Test.YtijohedhbbddjaaZ25
import Derived.Test.YtijohedhbbddjaaZ26
namespace Go.Proofs.Ytijohedhbbddjaa
open Go.RowKit

/-- A track, whether it was taken, an oddness and an error number are handed back. -/
def GivesU (xr xc : Int) (xs : List Int) (pr pc : Int) (ps : List Int) (taken odd : Bool) (err : Int) (w : World) (e : Ending) (w' : World) : Prop :=
  ∃ ax cx ap cp, e = .returned (.tuple #[.agg #[.int .i64 xr, .int .i64 xc, .slice ax xs.length cx, .int .i64 pr, .int .i64 pc, .slice ap ps.length cp], .bool taken, .bool odd, .int .i64 err]) ∧ QS w' (.slice ax xs.length cx) xs ∧ QS w' (.slice ap ps.length cp) ps ∧ Below w.heap.size w w'
theorem results_t4 {fn : Func} {p u v x : Tmp} (h : fn.results = #[.cell p 71, .tmp u, .tmp v, .tmp x]) (tmps : Array Value) (w : World) (g : Nat) (xr xc : Int) (ax : Option Addr) (nx cx : Nat) (pr pc : Int) (ap : Option Addr) (np cp : Nat) (hp : tmps.getD p undef = .pointer (some ⟨g, 0, none⟩)) (hg : w.heap[g]? = some (rowT xr xc ax nx cx pr pc ap np cp)) :
    (results fn tmps).run Try.prog w = .ok (.tuple #[.agg #[.int .i64 xr, .int .i64 xc, .slice ax nx cx, .int .i64 pr, .int .i64 pc, .slice ap np cp], tmps.getD u undef, tmps.getD v undef, tmps.getD x undef]) w := by
  unfold rowT at hg
  have hp' : tmps[p]?.getD undef = .pointer (some ⟨g, 0, none⟩) := by simpa using hp
  simp [results, h, hp', asAddr, run_loadVar_row w g _ _ _ _ _ hg Try.underlying71 rfl (by kernel_rfl)]
theorem qs_nil (w : World) : QS w (.slice none 0 0) [] := ⟨none, 0, rfl, Nat.le_refl _, fun i x h => by simp at h⟩
theorem heap_drew (w : World) : w.drew.heap = w.heap := rfl
theorem storeT_d {w : World} {g : Nat} {xr xc : Int} {ax : Option Addr} {nx cx : Nat} {pr pc : Int} {ap : Option Addr} {np cp : Nat} (hg : w.heap[g]? = some (rowT xr xc ax nx cx pr pc ap np cp)) (xr' xc' : Int) (ax' : Option Addr) (nx' cx' : Nat) (pr' pc' : Int) (ap' : Option Addr) (np' cp' : Nat) :
    ((((((w.setCell ⟨g, 0, none⟩ (.int .i64 xr')).setCell ⟨g, 1, none⟩ (.int .i64 xc')).setCell ⟨g, 2, none⟩ (.slice ax' nx' cx')).setCell ⟨g, 3, none⟩ (.int .i64 pr')).setCell ⟨g, 4, none⟩ (.int .i64 pc')).setCell ⟨g, 5, none⟩ (.slice ap' np' cp')).drew.heap[g]? = some (rowT xr' xc' ax' nx' cx' pr' pc' ap' np' cp') := by
  rw [heap_drew]; exact storeT hg _ _ _ _ _ _ _ _ _ _
def gateB (y s gate : Int) : Bool := decide (mulQ gate s < mulQ y y) || decide (s ≤ 0)
def updO (hs xs ps : List Int) (z r gate : Int) (n : Nat) : Bool := (inO hs xs ps z r n || mulO (inY hs xs z n) (inY hs xs z n)) || mulO gate (inS hs ps r n)

set_option maxRecDepth 100000 in
set_option maxHeartbeats 1000000 in
theorem update_no (w : World) (n xc pr pc hr hc z r gate : Int) (ax ap ah : Option Addr) (nx cx np cp nh ch : Nat) (hm : mayN n hr hc r ≠ 0) :
    Calls Try.prog 63 #[.agg #[.int .i64 n, .int .i64 xc, .slice ax nx cx, .int .i64 pr, .int .i64 pc, .slice ap np cp], .agg #[.int .i64 hr, .int .i64 hc, .slice ah nh ch], .int .i64 z, .int .i64 r, .int .i64 gate] w (GivesU 0 0 [] 0 0 [] false false (mayN n hr hc r) w) := by
  have hM := fun w => may_any w n xc pr pc hr hc r ax ap ah nx cx np cp nh ch
  obtain ⟨m, hmm⟩ : ∃ m, mayN n hr hc r = m := ⟨_, rfl⟩
  rw [hmm] at hM hm ⊢
  have HM := Lib.hid hM
  have hm0 : (m != 0) = true := by simpa using hm
  clear hM hmm hm
  obtain ⟨s, hsz⟩ : ∃ s, w.heap.size = s := ⟨_, rfl⟩
  go_enter Try.func63, Try.ntmps63
  go_upto_region 1 with fail
  obtain ⟨V, hV⟩ : ∃ V, V = ((w.alloc (rowT n xc ax nx cx pr pc ap np cp)).alloc (rowM hr hc ah nh ch)).alloc (rowT 0 0 none 0 0 0 0 none 0 0) := ⟨_, rfl⟩
  have HB : Hid (Below w.heap.size w V) := by rw [hV]; exact below3 _ _ _ _
  have h0 : V.heap[s]? = some (rowT n xc ax nx cx pr pc ap np cp) := by rw [hV, heap_old _ _ _ (by simp; omega), heap_old _ _ _ (by simp; omega)]; exact heap_at _ _ _ hsz.symm
  have h1 : V.heap[s + 1]? = some (rowM hr hc ah nh ch) := by rw [hV, heap_old _ _ _ (by simp; omega)]; exact heap_at _ _ _ (by simp; omega)
  have h2 : V.heap[s + 1 + 1]? = some (rowT 0 0 none 0 0 0 0 none 0 0) := by rw [hV]; exact heap_at _ _ _ (by simp; omega)
  have HR := Lib.hid h2
  unfold rowT rowM at hV
  rw [← hV]
  clear hV
  have c0 := rowT_cell h0
  have c1 := rowM_cell h1
  go_upto_region 3 with (go_at_call 109; (refine (HM.out _).mono ?_); rintro e v1 ⟨rfl, hd1⟩)
  have hR := block_later HR.out hd1
  have tc := rowT_cell hR
  have tf := rowT_frozen hR
  clear c0 c1 h0 h1 h2
  go_wp2_with fail
  refine bodyPost_ret (results_t4 rfl _ _ (s + 1 + 1) 0 0 none 0 0 0 0 none 0 0 rfl (storeT hR _ _ _ _ _ _ _ _ _ _)) rfl ⟨none, 0, none, 0, rfl, qs_nil _, qs_nil _, ?_⟩
  exact below_setT _ _ _ _ _ _ (by rw [hsz]; have h := below_trans2 HB.out hd1; rw [hsz] at h; exact h) (by omega)

set_option maxRecDepth 100000 in
set_option maxHeartbeats 1000000 in
theorem update_gate (w : World) (n : Nat) (vx vp vh : Value) (xs ps hs : List Int) (z r gate : Int) (hr : 0 < r) (hn1 : 1 ≤ n) (ht : TMV w n vx vp xs ps) (hh : MV w 1 n vh hs) (hg : gateB (inY hs xs z n) (inS hs ps r n) gate = true) :
    Calls Try.prog 63 #[.agg #[.int .i64 n, .int .i64 1, vx, .int .i64 n, .int .i64 n, vp], .agg #[.int .i64 1, .int .i64 n, vh], .int .i64 z, .int .i64 r, .int .i64 gate] w (GivesU n 1 xs n n ps false (updO hs xs ps z r gate n) 0 w) := by
  obtain ⟨ax, cx, rfl, -⟩ := id ht.x.qs
  obtain ⟨ap, cp, rfl, -⟩ := id ht.p.qs
  obtain ⟨ah, ch, rfl, -⟩ := id hh.qs
  have hM := fun w => may_any w n 1 n n 1 n r ax ap ah xs.length cx ps.length cp hs.length ch
  rw [mayN_ok hr] at hM
  have hI := fun (w : World) fb b v v' v'' h1 h2 h3 => winnov_any w fb b n v v' v'' xs ps hs z r h1 h2 h3
  unfold updO
  obtain ⟨y, hy⟩ : ∃ y, inY hs xs z n = y := ⟨_, rfl⟩
  obtain ⟨sv, hsv⟩ : ∃ y, inS hs ps r n = y := ⟨_, rfl⟩
  obtain ⟨io, hio⟩ : ∃ y, inO hs xs ps z r n = y := ⟨_, rfl⟩
  rw [hy, hsv, hio] at hI
  rw [hy, hsv] at hg
  rw [hio, hy, hsv]
  unfold gateB at hg
  have hYY := fun w => mul_any y y w
  have hGS := fun w => mul_any gate sv w
  obtain ⟨yy, hyy⟩ : ∃ x, mulQ y y = x := ⟨_, rfl⟩
  obtain ⟨gs, hgs⟩ : ∃ x, mulQ gate sv = x := ⟨_, rfl⟩
  obtain ⟨mo, hmo⟩ : ∃ x, mulO y y = x := ⟨_, rfl⟩
  obtain ⟨go, hgo⟩ : ∃ x, mulO gate sv = x := ⟨_, rfl⟩
  rw [hyy, hmo] at hYY
  rw [hgs, hgo] at hGS
  rw [hyy, hgs] at hg
  rw [hmo, hgo]
  have HT0 := Lib.hid ht
  have HM := Lib.hid hM
  have HI := Lib.hid hI
  have HYY := Lib.hid hYY
  have HGS := Lib.hid hGS
  clear hM hI hYY hGS hy hsv hio hyy hgs hmo hgo
  obtain ⟨s, hsz⟩ : ∃ s, w.heap.size = s := ⟨_, rfl⟩
  go_enter Try.func63, Try.ntmps63
  go_upto_region 1 with fail
  obtain ⟨V, hV⟩ : ∃ V, V = ((w.alloc (rowT n 1 ax xs.length cx n n ap ps.length cp)).alloc (rowM 1 n ah hs.length ch)).alloc (rowT 0 0 none 0 0 0 0 none 0 0) := ⟨_, rfl⟩
  have hbV : Below w.heap.size w V := by rw [hV]; exact below3 _ _ _ _
  have h0 : V.heap[s]? = some (rowT n 1 ax xs.length cx n n ap ps.length cp) := by rw [hV, heap_old _ _ _ (by simp; omega), heap_old _ _ _ (by simp; omega)]; exact heap_at _ _ _ hsz.symm
  have h1 : V.heap[s + 1]? = some (rowM 1 n ah hs.length ch) := by rw [hV, heap_old _ _ _ (by simp; omega)]; exact heap_at _ _ _ (by simp; omega)
  have h2 : V.heap[s + 1 + 1]? = some (rowT 0 0 none 0 0 0 0 none 0 0) := by rw [hV]; exact heap_at _ _ _ (by simp; omega)
  unfold rowT rowM at hV
  rw [← hV]
  clear hV
  have c0 := rowT_cell h0
  have c1 := rowM_cell h1
  go_upto_region 4 with (go_at_call 109; (refine (HM.out _).mono ?_); rintro e v1 ⟨rfl, hd1⟩)
  obtain ⟨fb, hfb⟩ : ∃ fb, fb = v1.heap.size := ⟨_, rfl⟩
  clear c0 c1
  go_upto_region 5 with fail
  obtain ⟨V1, hV1⟩ : ∃ V, V = v1.alloc (.cells #[.bool false] 129) := ⟨_, rfl⟩
  have hb1 : Below V.heap.size V V1 := by rw [hV1]; exact below_al hd1 _
  have HW1 : Hid (Wk V1 fb false) := by show _ = _; rw [hV1]; exact heap_at _ _ _ hfb
  rw [← hfb, ← hV1]
  have H0 := Lib.hid (block_later h0 hb1)
  have H1 := Lib.hid (block_later h1 hb1)
  have H2 := Lib.hid (block_later h2 hb1)
  have c0 := rowT_cell H0.out
  have c1 := rowM_cell H1.out
  have HT := Lib.hid ((ht.later hbV).later hb1)
  have HH := Lib.hid ((hh.later hbV).later hb1)
  have HB := Lib.hid (below_trans2 hbV hb1)
  have hfs : s + 1 + 1 < fb := by have := hd1.size; have := lt_of_block h2; omega
  have hfl := HW1.out.lt
  clear hV1 hfb hd1 h0 h1 h2 hbV hb1 ht hh
  go_upto_region 6 with (go_at_call 110; (refine (HI.out _ fb false _ _ _ HW1.out HT.out HH.out).mono ?_); rintro e v2 ⟨rfl, hw2, hb2⟩)
  have HW2 := Lib.hid hw2
  have HK2 := Lib.hid hb2
  clear c0 c1 hw2 hb2
  by_cases hq : gs < yy
  · clear hg
    go_upto_region 7 with (first | (go_at_call 25; first | ((with_reducible refine (HYY.out v2).mono ?_); rintro e v3 ⟨rfl, hd3⟩; have hw3 := HW2.out.later hd3) | ((with_reducible refine (HGS.out _).mono ?_); rintro e v5 ⟨rfl, hd5⟩; have hw5 := hw4.later hd5)) | (go_at_call 111; first | ((with_reducible refine (wone_any v3 fb (false || io) mo yy hw3).mono ?_); rintro e v4 ⟨rfl, hw4, hb4⟩) | ((with_reducible refine (wone_any v5 fb ((false || io) || mo) go gs hw5).mono ?_); rintro e v6 ⟨rfl, hw6, hb6⟩)))
    have HW6 : Hid (Wk v6 fb (((false || io) || mo) || go)) := hw6
    have HK6 : Hid (But fb V1 v6) := ((((HK2.out.trans (But.of_below hd3)).trans hb4).trans (But.of_below hd5)).trans hb6)
    have h06 := HK6.out.row H0.out (show s ≠ fb by omega)
    have h16 := HK6.out.row H1.out (show s + 1 ≠ fb by omega)
    have h26 := HK6.out.row H2.out (show s + 1 + 1 ≠ fb by omega)
    clear hd3 hw3 hw4 hb4 hd5 hw5 hw6 hb6
    have yT := rowT_but (f := s + 1 + 1) h06 (by omega)
    have yW := cells_but (fb := s + 1 + 1) HW6.out.cell (show fb ≠ s + 1 + 1 by omega)
    have tc := rowT_cell h26
    have tf := rowT_frozen h26
    have H26 := Lib.hid h26
    clear h06 h16 h26
    refine wp_plan (S := fun w' => But (s + 1 + 1) v6 w') (.take 0 (.take 1 (.take 2 (.take 3 (.take 4 (.alt 5 (.take 6 (.take 7 (.take 8 .done))) .stop)))))) (by kernel_rfl) (by kernel_rfl) (fun _ _ _ _ _ h => h) (but_drew _ _) (fun hHeld => ?_)
    iterate 5 (refine planTake rfl rfl (by rfl) (by intro w hSw; (try dsimp only at hSw); go_simp; try with_reducible rfl) ?_; simp only [Act.put, List.setIfInBounds_toArray, List.set_cons_zero, List.set_cons_succ])
    refine planOne rfl (by rfl) (fun K hK => ?_) planStop
    go_simp
    refine hK.out _ _ (by first | (with_reducible assumption) | (with_reducible exact (But.setT _ _ _ _ _ _ (But.refl _ _)).drew)) (fun hHeld' => ?_)
    clear hK K hHeld
    have hHeld := hHeld'
    clear hHeld'
    try simp only [Act.put, List.setIfInBounds_toArray, List.set_cons_zero, List.set_cons_succ]
    iterate 3 (refine planTake rfl rfl (by rfl) (by intro w hSw; (try dsimp only at hSw); go_simp; try with_reducible rfl) ?_; simp only [Act.put, List.setIfInBounds_toArray, List.set_cons_zero, List.set_cons_succ])
    unfold wpPlan
    go_wp2_with fail
    have HBF : Hid (Below s w v6) := (by rw [← hsz]; exact HB.out : Below s w V1).trans (HK6.out.below (by omega) (by omega))
    have hbf := (below_setT (w := v6) (.int .i64 n) (.int .i64 1) (.slice ax xs.length cx) (.int .i64 n) (.int .i64 n) (.slice ap ps.length cp) HBF.out (show s ≤ s + 1 + 1 by omega)).drew
    refine bodyPost_ret (results_t4 rfl _ _ (s + 1 + 1) n 1 ax xs.length cx n n ap ps.length cp rfl (storeT_d H26.out _ _ _ _ _ _ _ _ _ _)) rfl ⟨ax, cx, ap, cp, by simp, ?_, ?_, ?_⟩
    · exact HT0.out.x.qs.later (by rw [hsz]; exact hbf)
    · exact HT0.out.p.qs.later (by rw [hsz]; exact hbf)
    · first | (with_reducible exact hbf) | (rw [hsz]; exact hbf)
  · have hs0 : sv ≤ 0 := by simpa [hq] using hg
    clear hg
    go_upto_region 7 with (first | (go_at_call 25; first | ((with_reducible refine (HYY.out v2).mono ?_); rintro e v3 ⟨rfl, hd3⟩; have hw3 := HW2.out.later hd3) | ((with_reducible refine (HGS.out _).mono ?_); rintro e v5 ⟨rfl, hd5⟩; have hw5 := hw4.later hd5)) | (go_at_call 111; first | ((with_reducible refine (wone_any v3 fb (false || io) mo yy hw3).mono ?_); rintro e v4 ⟨rfl, hw4, hb4⟩) | ((with_reducible refine (wone_any v5 fb ((false || io) || mo) go gs hw5).mono ?_); rintro e v6 ⟨rfl, hw6, hb6⟩)))
    have HW6 : Hid (Wk v6 fb (((false || io) || mo) || go)) := hw6
    have HK6 : Hid (But fb V1 v6) := ((((HK2.out.trans (But.of_below hd3)).trans hb4).trans (But.of_below hd5)).trans hb6)
    have h06 := HK6.out.row H0.out (show s ≠ fb by omega)
    have h16 := HK6.out.row H1.out (show s + 1 ≠ fb by omega)
    have h26 := HK6.out.row H2.out (show s + 1 + 1 ≠ fb by omega)
    clear hd3 hw3 hw4 hb4 hd5 hw5 hw6 hb6
    have yT := rowT_but (f := s + 1 + 1) h06 (by omega)
    have yW := cells_but (fb := s + 1 + 1) HW6.out.cell (show fb ≠ s + 1 + 1 by omega)
    have tc := rowT_cell h26
    have tf := rowT_frozen h26
    have H26 := Lib.hid h26
    clear h06 h16 h26
    refine wp_plan (S := fun w' => But (s + 1 + 1) v6 w') (.take 0 (.take 1 (.take 2 (.take 3 (.take 4 (.alt 5 (.take 6 (.take 7 (.take 8 .done))) .stop)))))) (by kernel_rfl) (by kernel_rfl) (fun _ _ _ _ _ h => h) (but_drew _ _) (fun hHeld => ?_)
    iterate 5 (refine planTake rfl rfl (by rfl) (by intro w hSw; (try dsimp only at hSw); go_simp; try with_reducible rfl) ?_; simp only [Act.put, List.setIfInBounds_toArray, List.set_cons_zero, List.set_cons_succ])
    refine planOne rfl (by rfl) (fun K hK => ?_) planStop
    go_simp
    refine hK.out _ _ (by first | (with_reducible assumption) | (with_reducible exact (But.setT _ _ _ _ _ _ (But.refl _ _)).drew)) (fun hHeld' => ?_)
    clear hK K hHeld
    have hHeld := hHeld'
    clear hHeld'
    try simp only [Act.put, List.setIfInBounds_toArray, List.set_cons_zero, List.set_cons_succ]
    iterate 3 (refine planTake rfl rfl (by rfl) (by intro w hSw; (try dsimp only at hSw); go_simp; try with_reducible rfl) ?_; simp only [Act.put, List.setIfInBounds_toArray, List.set_cons_zero, List.set_cons_succ])
    unfold wpPlan
    go_wp2_with fail
    have HBF : Hid (Below s w v6) := (by rw [← hsz]; exact HB.out : Below s w V1).trans (HK6.out.below (by omega) (by omega))
    have hbf := (below_setT (w := v6) (.int .i64 n) (.int .i64 1) (.slice ax xs.length cx) (.int .i64 n) (.int .i64 n) (.slice ap ps.length cp) HBF.out (show s ≤ s + 1 + 1 by omega)).drew
    refine bodyPost_ret (results_t4 rfl _ _ (s + 1 + 1) n 1 ax xs.length cx n n ap ps.length cp rfl (storeT_d H26.out _ _ _ _ _ _ _ _ _ _)) rfl ⟨ax, cx, ap, cp, by simp, ?_, ?_, ?_⟩
    · exact HT0.out.x.qs.later (by rw [hsz]; exact hbf)
    · exact HT0.out.p.qs.later (by rw [hsz]; exact hbf)
    · first | (with_reducible exact hbf) | (rw [hsz]; exact hbf)
set_option maxRecDepth 100000 in
set_option maxHeartbeats 1000000 in
theorem update_take (w : World) (n : Nat) (vx vp vh : Value) (xs ps hs : List Int) (z r gate : Int) (hr : 0 < r) (hn1 : 1 ≤ n) (ht : TMV w n vx vp xs ps) (hh : MV w 1 n vh hs) (hg : gateB (inY hs xs z n) (inS hs ps r n) gate = false) :
    Calls Try.prog 63 #[.agg #[.int .i64 n, .int .i64 1, vx, .int .i64 n, .int .i64 n, vp], .agg #[.int .i64 1, .int .i64 n, vh], .int .i64 z, .int .i64 r, .int .i64 gate] w (GivesU n 1 (tkX (tkK ps hs (inS hs ps r n) n) xs (inY hs xs z n) n) n n (tkP (tkK ps hs (inS hs ps r n) n) ps hs r n) true ((updO hs xs ps z r gate n || tkO0 ps hs (inS hs ps r n) n) || tkO1 (tkK ps hs (inS hs ps r n) n) xs hs ps (inY hs xs z n) r n) 0 w) := by
  obtain ⟨ax, cx, rfl, -⟩ := id ht.x.qs
  obtain ⟨ap, cp, rfl, -⟩ := id ht.p.qs
  obtain ⟨ah, ch, rfl, -⟩ := id hh.qs
  have hM := fun w => may_any w n 1 n n 1 n r ax ap ah xs.length cx ps.length cp hs.length ch
  rw [mayN_ok hr] at hM
  have hI := fun (w : World) fb b v v' v'' h1 h2 h3 => winnov_any w fb b n v v' v'' xs ps hs z r h1 h2 h3
  unfold updO
  obtain ⟨y, hy⟩ : ∃ y, inY hs xs z n = y := ⟨_, rfl⟩
  obtain ⟨sv, hsv⟩ : ∃ y, inS hs ps r n = y := ⟨_, rfl⟩
  obtain ⟨io, hio⟩ : ∃ y, inO hs xs ps z r n = y := ⟨_, rfl⟩
  rw [hy, hsv, hio] at hI
  rw [hy, hsv] at hg
  rw [hio, hy, hsv]
  have hTk := fun (w : World) fb b v v' v'' h1 h2 h3 => taken_any w fb b n v v' v'' xs ps hs y sv r h1 hn1 h2 h3
  obtain ⟨lx, hlx⟩ : ∃ l, tkX (tkK ps hs sv n) xs y n = l := ⟨_, rfl⟩
  obtain ⟨lp, hlp⟩ : ∃ l, tkP (tkK ps hs sv n) ps hs r n = l := ⟨_, rfl⟩
  obtain ⟨t0, ht0⟩ : ∃ l, tkO0 ps hs sv n = l := ⟨_, rfl⟩
  obtain ⟨t1, ht1⟩ : ∃ l, tkO1 (tkK ps hs sv n) xs hs ps y r n = l := ⟨_, rfl⟩
  rw [hlx, hlp, ht0, ht1] at hTk
  rw [hlx, hlp, ht0, ht1]
  have HTk := Lib.hid hTk
  clear hTk hlx hlp ht0 ht1
  unfold gateB at hg
  have hYY := fun w => mul_any y y w
  have hGS := fun w => mul_any gate sv w
  obtain ⟨yy, hyy⟩ : ∃ x, mulQ y y = x := ⟨_, rfl⟩
  obtain ⟨gs, hgs⟩ : ∃ x, mulQ gate sv = x := ⟨_, rfl⟩
  obtain ⟨mo, hmo⟩ : ∃ x, mulO y y = x := ⟨_, rfl⟩
  obtain ⟨go, hgo⟩ : ∃ x, mulO gate sv = x := ⟨_, rfl⟩
  rw [hyy, hmo] at hYY
  rw [hgs, hgo] at hGS
  rw [hyy, hgs] at hg
  rw [hmo, hgo]
  have HT0 := Lib.hid ht
  have HM := Lib.hid hM
  have HI := Lib.hid hI
  have HYY := Lib.hid hYY
  have HGS := Lib.hid hGS
  clear hM hI hYY hGS hy hsv hio hyy hgs hmo hgo
  obtain ⟨s, hsz⟩ : ∃ s, w.heap.size = s := ⟨_, rfl⟩
  go_enter Try.func63, Try.ntmps63
  go_upto_region 1 with fail
  obtain ⟨V, hV⟩ : ∃ V, V = ((w.alloc (rowT n 1 ax xs.length cx n n ap ps.length cp)).alloc (rowM 1 n ah hs.length ch)).alloc (rowT 0 0 none 0 0 0 0 none 0 0) := ⟨_, rfl⟩
  have hbV : Below w.heap.size w V := by rw [hV]; exact below3 _ _ _ _
  have h0 : V.heap[s]? = some (rowT n 1 ax xs.length cx n n ap ps.length cp) := by rw [hV, heap_old _ _ _ (by simp; omega), heap_old _ _ _ (by simp; omega)]; exact heap_at _ _ _ hsz.symm
  have h1 : V.heap[s + 1]? = some (rowM 1 n ah hs.length ch) := by rw [hV, heap_old _ _ _ (by simp; omega)]; exact heap_at _ _ _ (by simp; omega)
  have h2 : V.heap[s + 1 + 1]? = some (rowT 0 0 none 0 0 0 0 none 0 0) := by rw [hV]; exact heap_at _ _ _ (by simp; omega)
  unfold rowT rowM at hV
  rw [← hV]
  clear hV
  have c0 := rowT_cell h0
  have c1 := rowM_cell h1
  go_upto_region 4 with (go_at_call 109; (refine (HM.out _).mono ?_); rintro e v1 ⟨rfl, hd1⟩)
  obtain ⟨fb, hfb⟩ : ∃ fb, fb = v1.heap.size := ⟨_, rfl⟩
  clear c0 c1
  go_upto_region 5 with fail
  obtain ⟨V1, hV1⟩ : ∃ V, V = v1.alloc (.cells #[.bool false] 129) := ⟨_, rfl⟩
  have hb1 : Below V.heap.size V V1 := by rw [hV1]; exact below_al hd1 _
  have HW1 : Hid (Wk V1 fb false) := by show _ = _; rw [hV1]; exact heap_at _ _ _ hfb
  rw [← hfb, ← hV1]
  have H0 := Lib.hid (block_later h0 hb1)
  have H1 := Lib.hid (block_later h1 hb1)
  have H2 := Lib.hid (block_later h2 hb1)
  have c0 := rowT_cell H0.out
  have c1 := rowM_cell H1.out
  have HT := Lib.hid ((ht.later hbV).later hb1)
  have HH := Lib.hid ((hh.later hbV).later hb1)
  have HB := Lib.hid (below_trans2 hbV hb1)
  have hfs : s + 1 + 1 < fb := by have := hd1.size; have := lt_of_block h2; omega
  have hfl := HW1.out.lt
  clear hV1 hfb hd1 h0 h1 h2 hbV hb1 ht hh
  go_upto_region 6 with (go_at_call 110; (refine (HI.out _ fb false _ _ _ HW1.out HT.out HH.out).mono ?_); rintro e v2 ⟨rfl, hw2, hb2⟩)
  have HW2 := Lib.hid hw2
  have HK2 := Lib.hid hb2
  clear c0 c1 hw2 hb2
  have hq : ¬ gs < yy := fun h => by simp [h] at hg
  have hs0 : ¬ sv ≤ 0 := fun h => by simp [h] at hg
  clear hg
  have yT0 := rowT_but (f := fb) H0.out (by omega)
  have yM0 := rowM_but (f := fb) H1.out (by omega)
  go_upto_region 9 with (first | (first | (go_at_call 25; first | ((with_reducible refine (HYY.out v2).mono ?_); rintro e v3 ⟨rfl, hd3⟩; have hw3 := HW2.out.later hd3) | ((with_reducible refine (HGS.out _).mono ?_); rintro e v5 ⟨rfl, hd5⟩; have hw5 := hw4.later hd5)) | (go_at_call 111; first | ((with_reducible refine (wone_any v3 fb (false || io) mo yy hw3).mono ?_); rintro e v4 ⟨rfl, hw4, hb4⟩) | ((with_reducible refine (wone_any v5 fb ((false || io) || mo) go gs hw5).mono ?_); rintro e v6 ⟨rfl, hw6, hb6⟩; have hK6 : But fb V1 v6 := ((((HK2.out.trans (But.of_below hd3)).trans hb4).trans (But.of_below hd5)).trans hb6)))) | (go_at_call 112; (refine (HTk.out _ fb (((false || io) || mo) || go) _ _ _ hw6 ⟨HT.out.x.but HW1.out hK6, HT.out.p.but HW1.out hK6⟩ (HH.out.but HW1.out hK6)).mono ?_); rintro e v7 ⟨bx, dx, bp, dp, rfl, hox, hop, hw7, hb7⟩))
  have HK6 := Lib.hid hK6
  have h26 := HK6.out.row H2.out (show s + 1 + 1 ≠ fb by omega)
  have H26 := Lib.hid h26
  clear hd3 hw3 hw4 hb4 hd5 hw5 hw6 hb6 yT0 yM0 hK6 h26
  obtain ⟨g8, hg8⟩ : ∃ g, g = v7.heap.size := ⟨_, rfl⟩
  obtain ⟨v8, hv8⟩ : ∃ V, V = v7.alloc (rowT n 1 bx lx.length dx n n bp lp.length dp) := ⟨_, rfl⟩
  have hb8 : Below v7.heap.size v7 v8 := by rw [hv8]; exact below1 _ _
  have h88 : v8.heap[g8]? = some (rowT n 1 bx lx.length dx n n bp lp.length dp) := by rw [hv8]; exact heap_at _ _ _ hg8
  have HW8 : Hid (Wk v8 fb (((((false || io) || mo) || go) || t0) || t1)) := hw7.later hb8
  have HOX : Hid (Own v8 0 (.slice bx lx.length dx) lx) := hox.later hb8
  have HOP : Hid (Own v8 0 (.slice bp lp.length dp) lp) := hop.later hb8
  have h28 := block_later (hb7.row H26.out (show s + 1 + 1 ≠ fb by omega)) hb8
  have HK8 : Hid (But fb V1 v8) := (HK6.out.trans hb7).trans (But.of_below hb8)
  have hg8s : s + 1 + 1 < g8 := by have := lt_of_block (hb7.row H26.out (show s + 1 + 1 ≠ fb by omega)); omega
  rw [← hg8]
  unfold rowT at hv8
  rw [← hv8]
  clear hv8 hg8 hox hop hw7 hb7 hb8
  have yT := rowT_but (f := s + 1 + 1) h88 (by omega)
  have yW := cells_but (fb := s + 1 + 1) HW8.out.cell (show fb ≠ s + 1 + 1 by omega)
  have tc := rowT_cell h28
  have tf := rowT_frozen h28
  have H28 := Lib.hid h28
  clear h88 h28
  refine wp_plan (S := fun w' => But (s + 1 + 1) v8 w') (.take 0 (.take 1 (.take 2 (.take 3 (.take 4 (.alt 5 (.take 6 (.take 7 (.take 8 .done))) .stop)))))) (by kernel_rfl) (by kernel_rfl) (fun _ _ _ _ _ h => h) (but_drew _ _) (fun hHeld => ?_)
  iterate 5 (refine planTake rfl rfl (by rfl) (by intro w hSw; (try dsimp only at hSw); go_simp; try with_reducible rfl) ?_; simp only [Act.put, List.setIfInBounds_toArray, List.set_cons_zero, List.set_cons_succ])
  refine planOne rfl (by rfl) (fun K hK => ?_) planStop
  go_simp
  refine hK.out _ _ (by first | (with_reducible assumption) | (with_reducible exact (But.setT _ _ _ _ _ _ (But.refl _ _)).drew)) (fun hHeld' => ?_)
  clear hK K hHeld
  have hHeld := hHeld'
  clear hHeld'
  try simp only [Act.put, List.setIfInBounds_toArray, List.set_cons_zero, List.set_cons_succ]
  iterate 3 (refine planTake rfl rfl (by rfl) (by intro w hSw; (try dsimp only at hSw); go_simp; try with_reducible rfl) ?_; simp only [Act.put, List.setIfInBounds_toArray, List.set_cons_zero, List.set_cons_succ])
  unfold wpPlan
  go_wp2_with fail
  have HBF : Hid (Below s w v8) := (by rw [← hsz]; exact HB.out : Below s w V1).trans (HK8.out.below (by omega) (by omega))
  have hbf := (below_setT (w := v8) (.int .i64 n) (.int .i64 1) (.slice bx lx.length dx) (.int .i64 n) (.int .i64 n) (.slice bp lp.length dp) HBF.out (show s ≤ s + 1 + 1 by omega)).drew
  refine bodyPost_ret (results_t4 rfl _ _ (s + 1 + 1) n 1 bx lx.length dx n n bp lp.length dp rfl (storeT_d H28.out _ _ _ _ _ _ _ _ _ _)) rfl ⟨bx, dx, bp, dp, by simp [Bool.or_assoc], ?_, ?_, ?_⟩
  · exact ((HOX.out.setT _ _ _ _ _ _ H28.out).later (below_drew _)).qs
  · exact ((HOP.out.setT _ _ _ _ _ _ H28.out).later (below_drew _)).qs
  · first | (with_reducible exact hbf) | (rw [hsz]; exact hbf)

end Go.Proofs.Ytijohedhbbddjaa

namespace Go.Proofs.Ytijohedhbbddjaa
open Go.RowKit

set_option maxRecDepth 100000 in
set_option maxHeartbeats 1000000 in
theorem rupdate_no (w : World) (n xc pr pc hr hc z r gate : Int) (ax ap ah : Option Addr) (nx cx np cp nh ch : Nat) (hm : mayN n hr hc r ≠ 0) :
    Calls Try.prog 64 #[.agg #[.int .i64 n, .int .i64 xc, .slice ax nx cx, .int .i64 pr, .int .i64 pc, .slice ap np cp], .agg #[.int .i64 hr, .int .i64 hc, .slice ah nh ch], .int .i64 z, .int .i64 r, .int .i64 gate] w (GivesU 0 0 [] 0 0 [] false false (mayN n hr hc r) w) := by
  have hM := fun w => rinnov_no w n xc pr pc hr hc z r ax ap ah nx cx np cp nh ch hm
  obtain ⟨m, hmm⟩ : ∃ m, mayN n hr hc r = m := ⟨_, rfl⟩
  rw [hmm] at hM hm ⊢
  have HM := Lib.hid hM
  have hm0 : (m != 0) = true := by simpa using hm
  clear hM hmm hm
  obtain ⟨s, hsz⟩ : ∃ s, w.heap.size = s := ⟨_, rfl⟩
  go_enter Try.func64, Try.ntmps64
  go_upto_region 1 with fail
  obtain ⟨V, hV⟩ : ∃ V, V = ((w.alloc (rowT n xc ax nx cx pr pc ap np cp)).alloc (rowM hr hc ah nh ch)).alloc (rowT 0 0 none 0 0 0 0 none 0 0) := ⟨_, rfl⟩
  have HB : Hid (Below w.heap.size w V) := by rw [hV]; exact below3 _ _ _ _
  have h0 : V.heap[s]? = some (rowT n xc ax nx cx pr pc ap np cp) := by rw [hV, heap_old _ _ _ (by simp; omega), heap_old _ _ _ (by simp; omega)]; exact heap_at _ _ _ hsz.symm
  have h1 : V.heap[s + 1]? = some (rowM hr hc ah nh ch) := by rw [hV, heap_old _ _ _ (by simp; omega)]; exact heap_at _ _ _ (by simp; omega)
  have h2 : V.heap[s + 1 + 1]? = some (rowT 0 0 none 0 0 0 0 none 0 0) := by rw [hV]; exact heap_at _ _ _ (by simp; omega)
  have HR := Lib.hid h2
  unfold rowT rowM at hV
  rw [← hV]
  clear hV
  have c0 := rowT_cell h0
  have c1 := rowM_cell h1
  go_upto_region 3 with (go_at_call 66; (refine (HM.out _).mono ?_); rintro e v1 ⟨rfl, hd1⟩)
  have hR := block_later HR.out hd1
  have tc := rowT_cell hR
  have tf := rowT_frozen hR
  clear c0 c1 h0 h1 h2
  go_wp2_with fail
  refine bodyPost_ret (results_t4 rfl _ _ (s + 1 + 1) 0 0 none 0 0 0 0 none 0 0 rfl (storeT hR _ _ _ _ _ _ _ _ _ _)) rfl ⟨none, 0, none, 0, rfl, qs_nil _, qs_nil _, ?_⟩
  exact below_setT _ _ _ _ _ _ (by rw [hsz]; have h := below_trans2 HB.out hd1; rw [hsz] at h; exact h) (by omega)

theorem below_trans2' {B : Nat} {w a b : World} (h1 : Below B w a) (h2 : Below a.heap.size a b) (hB : B ≤ a.heap.size) : Below B w b := h1.trans (h2.mono hB)
theorem below_setM {B g : Nat} {w w1 : World} (x y z : Value) (h : Below B w w1) (hg : B ≤ g) : Below B w (((w1.setCell ⟨g, 0, none⟩ x).setCell ⟨g, 1, none⟩ y).setCell ⟨g, 2, none⟩ z) := below_set3g h hg x y z
/-- A loop's row: the matrix k, divided up to i. -/
structure DwIn (V0 : World) (g n q cap : Nat) (ks : List Int) (s : Int) (i : Nat) (wr : World) : Prop where
  m : wr.heap[g]? = some (rowM n 1 (some ⟨q, 0, none⟩) ks.length cap)
  own : Own wr V0.heap.size (.slice (some ⟨q, 0, none⟩) ks.length cap) (dvL ks s i)
  hk : Below V0.heap.size V0 wr

set_option maxRecDepth 100000 in
set_option maxHeartbeats 12000000 in
theorem rupdate_gate (w : World) (n : Nat) (vx vp vh : Value) (xs ps hs : List Int) (z r gate : Int) (hr : 0 < r) (hn1 : 1 ≤ n) (ht : TMV w n vx vp xs ps) (hh : MV w 1 n vh hs) (hg : gateB (inY hs xs z n) (inS hs ps r n) gate = true) :
    Calls Try.prog 64 #[.agg #[.int .i64 n, .int .i64 1, vx, .int .i64 n, .int .i64 n, vp], .agg #[.int .i64 1, .int .i64 n, vh], .int .i64 z, .int .i64 r, .int .i64 gate] w (GivesU n 1 xs n n ps false (updO hs xs ps z r gate n) 0 w) := by
  obtain ⟨ax, cx, rfl, -⟩ := id ht.x.qs
  obtain ⟨ap, cp, rfl, -⟩ := id ht.p.qs
  obtain ⟨ah, ch, rfl, -⟩ := id hh.qs
  have hn8 := hh.hc
  have hI := fun (w : World) v v' v'' h1 h2 => rinnov_any w n v v' v'' xs ps hs z r hr h1 h2
  unfold updO
  obtain ⟨y, hy⟩ : ∃ y, inY hs xs z n = y := ⟨_, rfl⟩
  obtain ⟨sv, hsv⟩ : ∃ y, inS hs ps r n = y := ⟨_, rfl⟩
  obtain ⟨io, hio⟩ : ∃ y, inO hs xs ps z r n = y := ⟨_, rfl⟩
  rw [hy, hsv, hio] at hI
  rw [hy, hsv] at hg
  rw [hio, hy, hsv]

  unfold gateB at hg
  have hYY := fun w => rmul_any y y w
  have hGS := fun w => rmul_any gate sv w
  obtain ⟨yy, hyy⟩ : ∃ x, mulQ y y = x := ⟨_, rfl⟩
  obtain ⟨gs, hgs⟩ : ∃ x, mulQ gate sv = x := ⟨_, rfl⟩
  obtain ⟨mo, hmo⟩ : ∃ x, mulO y y = x := ⟨_, rfl⟩
  obtain ⟨go, hgo⟩ : ∃ x, mulO gate sv = x := ⟨_, rfl⟩
  rw [hyy, hmo] at hYY
  rw [hgs, hgo] at hGS
  rw [hyy, hgs] at hg
  rw [hmo, hgo]
  have HT0 := Lib.hid ht
  have HI := Lib.hid hI
  have HYY := Lib.hid hYY
  have HGS := Lib.hid hGS
  have HG := Lib.hid hg
  clear hI hYY hGS hy hsv hio hyy hgs hmo hgo hg
  have e8 : True := trivial
  obtain ⟨s, hsz⟩ : ∃ s, w.heap.size = s := ⟨_, rfl⟩
  go_enter Try.func64, Try.ntmps64
  go_upto_region 1 with fail
  obtain ⟨V, hV⟩ : ∃ V, V = ((w.alloc (rowT n 1 ax xs.length cx n n ap ps.length cp)).alloc (rowM 1 n ah hs.length ch)).alloc (rowT 0 0 none 0 0 0 0 none 0 0) := ⟨_, rfl⟩
  have hbV : Below w.heap.size w V := by rw [hV]; exact below3 _ _ _ _
  have h0 : V.heap[s]? = some (rowT n 1 ax xs.length cx n n ap ps.length cp) := by rw [hV, heap_old _ _ _ (by simp; omega), heap_old _ _ _ (by simp; omega)]; exact heap_at _ _ _ hsz.symm
  have h1 : V.heap[s + 1]? = some (rowM 1 n ah hs.length ch) := by rw [hV, heap_old _ _ _ (by simp; omega)]; exact heap_at _ _ _ (by simp; omega)
  have h2 : V.heap[s + 1 + 1]? = some (rowT 0 0 none 0 0 0 0 none 0 0) := by rw [hV]; exact heap_at _ _ _ (by simp; omega)
  unfold rowT rowM at hV
  rw [← hV]
  clear hV
  have c0 := rowT_cell h0
  have c1 := rowM_cell h1
  have HTV := Lib.hid (ht.later hbV)
  have HHV := Lib.hid (hh.later hbV)
  go_upto_region 6 with (first | (go_at_call 66; (refine (HI.out _ _ _ _ HTV.out HHV.out).mono ?_); rintro e v1 ⟨rfl, hd1⟩) | (go_at_call 14; first | ((with_reducible refine (HYY.out _).mono ?_); rintro e v2 ⟨rfl, rfl⟩) | ((with_reducible refine (HGS.out _).mono ?_); rintro e v3 ⟨rfl, rfl⟩)))
  have B0_1 := Lib.hid (block_later h0 hd1)
  have B1_1 := Lib.hid (block_later h1 hd1)
  have B2_1 := Lib.hid (block_later h2 hd1)
  have T_1 := Lib.hid (HTV.out.later hd1)
  have H_1 := Lib.hid (HHV.out.later hd1)
  have HB := Lib.hid (below_trans2 hbV hd1)
  clear c0 c1 h0 h1 h2 hbV hd1 HTV HHV ht hh
  obtain ⟨og, hog⟩ : ∃ b, ((io || mo) || go) = b := ⟨_, rfl⟩
  have HOG := Lib.hid hog
  rw [hog]
  clear hog
  go_cut [16] (fun s16 wx => s16 = .bool og ∧ v1 = wx)
  case first =>
    cases io <;> cases mo
    all_goals go_wp2_with fail
    all_goals go_meet
    all_goals exact ⟨by rw [← HOG.out]; simp, rfl⟩
  case rest =>
    obtain ⟨rfl, rfl⟩ := hcut
    have c0 := rowT_cell B0_1.out
    by_cases hq : gs < yy
    · go_upto_region 8 with fail
      have tc := rowT_cell B2_1.out
      have tf := rowT_frozen B2_1.out
      go_wp2_with fail
      have hbf := below_setT (w := v1) (.int .i64 n) (.int .i64 1) (.slice ax xs.length cx) (.int .i64 n) (.int .i64 n) (.slice ap ps.length cp) HB.out (show w.heap.size ≤ s + 1 + 1 by omega)
      refine bodyPost_ret (results_t4 rfl _ _ (s + 1 + 1) n 1 ax xs.length cx n n ap ps.length cp rfl (storeT B2_1.out _ _ _ _ _ _ _ _ _ _)) rfl ⟨ax, cx, ap, cp, by simp [HOG.out], HT0.out.x.qs.later hbf, HT0.out.p.qs.later hbf, ?_⟩
      first | (with_reducible exact hbf) | (rw [← hsz]; exact hbf)
    · have hs0 : sv ≤ 0 := by have := HG.out; simpa [hq] using this
      go_upto_region 8 with fail
      have tc := rowT_cell B2_1.out
      have tf := rowT_frozen B2_1.out
      go_wp2_with fail
      have hbf := below_setT (w := v1) (.int .i64 n) (.int .i64 1) (.slice ax xs.length cx) (.int .i64 n) (.int .i64 n) (.slice ap ps.length cp) HB.out (show w.heap.size ≤ s + 1 + 1 by omega)
      refine bodyPost_ret (results_t4 rfl _ _ (s + 1 + 1) n 1 ax xs.length cx n n ap ps.length cp rfl (storeT B2_1.out _ _ _ _ _ _ _ _ _ _)) rfl ⟨ax, cx, ap, cp, by simp [HOG.out], HT0.out.x.qs.later hbf, HT0.out.p.qs.later hbf, ?_⟩
      first | (with_reducible exact hbf) | (rw [← hsz]; exact hbf)

end Go.Proofs.Ytijohedhbbddjaa

namespace Go.Proofs.Ytijohedhbbddjaa
open Go.RowKit

set_option maxRecDepth 100000 in
set_option maxHeartbeats 12000000 in
theorem rupdate_take (w : World) (n : Nat) (vx vp vh : Value) (xs ps hs : List Int) (z r gate : Int) (hr : 0 < r) (hn1 : 1 ≤ n) (ht : TMV w n vx vp xs ps) (hh : MV w 1 n vh hs) (hg : gateB (inY hs xs z n) (inS hs ps r n) gate = false) :
    Calls Try.prog 64 #[.agg #[.int .i64 n, .int .i64 1, vx, .int .i64 n, .int .i64 n, vp], .agg #[.int .i64 1, .int .i64 n, vh], .int .i64 z, .int .i64 r, .int .i64 gate] w (GivesU n 1 (tkX (tkK ps hs (inS hs ps r n) n) xs (inY hs xs z n) n) n n (tkP (tkK ps hs (inS hs ps r n) n) ps hs r n) true ((updO hs xs ps z r gate n || tkO0 ps hs (inS hs ps r n) n) || tkO1 (tkK ps hs (inS hs ps r n) n) xs hs ps (inY hs xs z n) r n) 0 w) := by
  obtain ⟨ax, cx, rfl, -⟩ := id ht.x.qs
  obtain ⟨ap, cp, rfl, -⟩ := id ht.p.qs
  obtain ⟨ah, ch, rfl, -⟩ := id hh.qs
  have hn8 := hh.hc
  have hI := fun (w : World) v v' v'' h1 h2 => rinnov_any w n v v' v'' xs ps hs z r hr h1 h2
  unfold updO
  obtain ⟨y, hy⟩ : ∃ y, inY hs xs z n = y := ⟨_, rfl⟩
  obtain ⟨sv, hsv⟩ : ∃ y, inS hs ps r n = y := ⟨_, rfl⟩
  obtain ⟨io, hio⟩ : ∃ y, inO hs xs ps z r n = y := ⟨_, rfl⟩
  rw [hy, hsv, hio] at hI
  rw [hy, hsv] at hg
  rw [hio, hy, hsv]
  have hTh := fun (w : World) v h => rtrans_row w n v hs h
  obtain ⟨lt, hlt⟩ : ∃ l, transL hs 1 n = l := ⟨_, rfl⟩
  have hMk := fun (w : World) v v' h h' => rmul_col w n n v v' ps lt h h'
  obtain ⟨k0, hk0⟩ : ∃ l, mulL ps lt n n 1 = l := ⟨_, rfl⟩
  obtain ⟨o0, ho0⟩ : ∃ l, mulLO ps lt n n 1 = l := ⟨_, rfl⟩
  have hkd : tkK ps hs sv n = dvL k0 sv k0.length := by unfold tkK; rw [hlt, hk0]
  have hkl0 : k0.length = n * 1 := by rw [← hk0]; unfold mulL; rw [tab_length]
  rw [hlt] at hTh
  rw [hk0, ho0] at hMk
  unfold tkO0
  rw [hkd, hlt, hk0, ho0]
  clear hkd
  obtain ⟨kd, hkd⟩ : ∃ l, dvL k0 sv k0.length = l := ⟨_, rfl⟩
  obtain ⟨od, hod⟩ : ∃ l, dvO k0 sv k0.length = l := ⟨_, rfl⟩
  have HKD := Lib.hid (And.intro hkd hod)
  have hkl : kd.length = k0.length := by rw [← hkd, dvL_len]
  rw [hkd, hod]
  clear hkd hod
  have hSy := fun (w : World) v h => rscale_1 w n v kd y h
  have hSr := fun (w : World) v h => rscale_1 w n v kd r h
  unfold tkX tkO1 tkP tkR
  obtain ⟨sy, hsy⟩ : ∃ l, scaleL kd y n 1 = l := ⟨_, rfl⟩
  obtain ⟨oy, hoy⟩ : ∃ l, scaleLO kd y n 1 = l := ⟨_, rfl⟩
  obtain ⟨sr, hsr⟩ : ∃ l, scaleL kd r n 1 = l := ⟨_, rfl⟩
  obtain ⟨or', hor'⟩ : ∃ l, scaleLO kd r n 1 = l := ⟨_, rfl⟩
  rw [hsy, hoy] at hSy
  rw [hsr, hor'] at hSr
  rw [hsy, hoy, hsr, hor']
  have hAx := fun (w : World) v v' h h' => radd_col w n v v' xs sy h h'
  obtain ⟨lx, hlx⟩ : ∃ l, eachL addQ xs sy n 1 = l := ⟨_, rfl⟩
  obtain ⟨ox, hox⟩ : ∃ l, eachO addO xs sy n 1 = l := ⟨_, rfl⟩
  rw [hlx, hox] at hAx
  rw [hlx, hox]
  have hKh := fun (w : World) v v' h h' => rmul_out w n v v' kd hs h h'
  have hiD : tkI kd hs n = eachL subQ (eyeL n) (mulL kd hs n 1 n) n n := rfl
  obtain ⟨lk, hlk⟩ : ∃ l, mulL kd hs n 1 n = l := ⟨_, rfl⟩
  obtain ⟨ok, hok⟩ : ∃ l, mulLO kd hs n 1 n = l := ⟨_, rfl⟩
  rw [hlk] at hiD
  rw [hlk, hok] at hKh
  rw [hlk, hok]
  have hEy := fun (w : World) => reye_own w n hn1 hn8
  have hSi := fun (w : World) v v' h h' => rsub_own w n n v v' (eyeL n) lk h h'
  obtain ⟨li, hli⟩ : ∃ l, eachL subQ (eyeL n) lk n n = l := ⟨_, rfl⟩
  obtain ⟨oi, hoi⟩ : ∃ l, eachO subO (eyeL n) lk n n = l := ⟨_, rfl⟩
  rw [hli] at hiD
  rw [hli, hoi] at hSi
  rw [hiD, hoi]
  clear hiD
  obtain ⟨le, hle⟩ : ∃ l, eyeL n = l := ⟨_, rfl⟩
  rw [hle] at hSi hEy
  clear hle
  have hBt := fun (w : World) v v' h h' => rmid_any w n n v v' li ps h h'
  obtain ⟨lb, hlb⟩ : ∃ l, btwL li ps n n = l := ⟨_, rfl⟩
  obtain ⟨ob, hob⟩ : ∃ l, btwO li ps n n = l := ⟨_, rfl⟩
  rw [hlb, hob] at hBt
  rw [hlb, hob]
  have hTk := fun (w : World) v h => rtrans_col w n v kd h
  obtain ⟨tk, htk⟩ : ∃ l, transL kd n 1 = l := ⟨_, rfl⟩
  rw [htk] at hTk
  rw [htk]
  have hMr := fun (w : World) v v' h h' => rmul_out w n v v' sr tk h h'
  obtain ⟨lr, hlr⟩ : ∃ l, mulL sr tk n 1 n = l := ⟨_, rfl⟩
  obtain ⟨om, hom⟩ : ∃ l, mulLO sr tk n 1 n = l := ⟨_, rfl⟩
  rw [hlr, hom] at hMr
  rw [hlr, hom]
  have hAp := fun (w : World) v v' h h' => radd_own w n n v v' lb lr h h'
  have hIn := eachAdd_inQ lb lr n n
  obtain ⟨la, hla⟩ : ∃ l, eachL addQ lb lr n n = l := ⟨_, rfl⟩
  obtain ⟨oa, hoa⟩ : ∃ l, eachO addO lb lr n n = l := ⟨_, rfl⟩
  rw [hla, hoa] at hAp
  rw [hla] at hIn
  rw [hla, hoa]
  have hGd := fun (w : World) v h => rgood_any w n v la h hIn
  obtain ⟨lg, hlg⟩ : ∃ l, goodL la n = l := ⟨_, rfl⟩
  rw [hlg] at hGd
  rw [hlg]
  have HTh := Lib.hid hTh
  have HMk := Lib.hid hMk
  have HSy := Lib.hid hSy
  have HSr := Lib.hid hSr
  have HAx := Lib.hid hAx
  have HKh := Lib.hid hKh
  have HEy := Lib.hid hEy
  have HSi := Lib.hid hSi
  have HBt := Lib.hid hBt
  have HTk := Lib.hid hTk
  have HMr := Lib.hid hMr
  have HAp := Lib.hid hAp
  have HGd := Lib.hid hGd
  have HKL := Lib.hid (And.intro hkl hkl0)
  clear hlt hk0 ho0 hsy hoy hsr hor' hlx hox hlk hok hli hoi hlb hob htk hlr hom hla hoa hlg hTh hMk hSy hSr hAx hKh hEy hSi hBt hTk hMr hAp hGd hIn hkl hkl0
  unfold gateB at hg
  have hYY := fun w => rmul_any y y w
  have hGS := fun w => rmul_any gate sv w
  obtain ⟨yy, hyy⟩ : ∃ x, mulQ y y = x := ⟨_, rfl⟩
  obtain ⟨gs, hgs⟩ : ∃ x, mulQ gate sv = x := ⟨_, rfl⟩
  obtain ⟨mo, hmo⟩ : ∃ x, mulO y y = x := ⟨_, rfl⟩
  obtain ⟨go, hgo⟩ : ∃ x, mulO gate sv = x := ⟨_, rfl⟩
  rw [hyy, hmo] at hYY
  rw [hgs, hgo] at hGS
  rw [hyy, hgs] at hg
  rw [hmo, hgo]
  have HT0 := Lib.hid ht
  have HI := Lib.hid hI
  have HYY := Lib.hid hYY
  have HGS := Lib.hid hGS
  have HG := Lib.hid hg
  clear hI hYY hGS hy hsv hio hyy hgs hmo hgo hg
  have e8 : True := trivial
  obtain ⟨s, hsz⟩ : ∃ s, w.heap.size = s := ⟨_, rfl⟩
  go_enter Try.func64, Try.ntmps64
  go_upto_region 1 with fail
  obtain ⟨V, hV⟩ : ∃ V, V = ((w.alloc (rowT n 1 ax xs.length cx n n ap ps.length cp)).alloc (rowM 1 n ah hs.length ch)).alloc (rowT 0 0 none 0 0 0 0 none 0 0) := ⟨_, rfl⟩
  have hbV : Below w.heap.size w V := by rw [hV]; exact below3 _ _ _ _
  have h0 : V.heap[s]? = some (rowT n 1 ax xs.length cx n n ap ps.length cp) := by rw [hV, heap_old _ _ _ (by simp; omega), heap_old _ _ _ (by simp; omega)]; exact heap_at _ _ _ hsz.symm
  have h1 : V.heap[s + 1]? = some (rowM 1 n ah hs.length ch) := by rw [hV, heap_old _ _ _ (by simp; omega)]; exact heap_at _ _ _ (by simp; omega)
  have h2 : V.heap[s + 1 + 1]? = some (rowT 0 0 none 0 0 0 0 none 0 0) := by rw [hV]; exact heap_at _ _ _ (by simp; omega)
  unfold rowT rowM at hV
  rw [← hV]
  clear hV
  have c0 := rowT_cell h0
  have c1 := rowM_cell h1
  have HTV := Lib.hid (ht.later hbV)
  have HHV := Lib.hid (hh.later hbV)
  go_upto_region 6 with (first | (go_at_call 66; (refine (HI.out _ _ _ _ HTV.out HHV.out).mono ?_); rintro e v1 ⟨rfl, hd1⟩) | (go_at_call 14; first | ((with_reducible refine (HYY.out _).mono ?_); rintro e v2 ⟨rfl, rfl⟩) | ((with_reducible refine (HGS.out _).mono ?_); rintro e v3 ⟨rfl, rfl⟩)))
  have B0_1 := Lib.hid (block_later h0 hd1)
  have B1_1 := Lib.hid (block_later h1 hd1)
  have B2_1 := Lib.hid (block_later h2 hd1)
  have T_1 := Lib.hid (HTV.out.later hd1)
  have H_1 := Lib.hid (HHV.out.later hd1)
  have HB := Lib.hid (below_trans2 hbV hd1)
  clear c0 c1 h0 h1 h2 hbV hd1 HTV HHV ht hh
  obtain ⟨og, hog⟩ : ∃ b, ((io || mo) || go) = b := ⟨_, rfl⟩
  have HOG := Lib.hid hog
  rw [hog]
  clear hog
  go_cut [16] (fun s16 wx => s16 = .bool og ∧ v1 = wx)
  case first =>
    cases io <;> cases mo
    all_goals go_wp2_with fail
    all_goals go_meet
    all_goals exact ⟨by rw [← HOG.out]; simp, rfl⟩
  case rest =>
    obtain ⟨rfl, rfl⟩ := hcut
    have c0 := rowT_cell B0_1.out
    have hq : ¬ gs < yy := fun h => by have := HG.out; simp [h] at this
    have hs0 : ¬ sv ≤ 0 := fun h => by have := HG.out; simp [h] at this
    have c1 := rowM_cell B1_1.out
    have k0a := cells_later c0.1
    have k0b := cells_later c0.2.2.2.1
    have k0c := cells_later c0.2.2.2.2.1
    have k0d := cells_later c0.2.2.2.2.2
    have k1a := cells_later c1.1
    have k1b := cells_later c1.2.1
    have k1c := cells_later c1.2.2
    have hk0 := Below.refl v1.heap.size v1
    go_upto_region 9 with fail
    clear c0 c1
    go_cut [22, 23] (fun s22 s23 wx => ∃ g a c, s22 = .pointer (some ⟨g, 0, none⟩) ∧ s23 = .bool o0 ∧ wx.heap[g]? = some (rowM n 1 a k0.length c) ∧ MO wx v1.heap.size n 1 (.slice a k0.length c) k0 ∧ Below v1.heap.size v1 wx)
    case first =>
      as_aux_lemma =>
      go_region_held3 (fun w' => Below v1.heap.size v1 w') (first | (with_reducible assumption) | (with_reducible exact below_drew _) | (with_reducible exact (below1 v1 _).drew) | (with_reducible exact hk1.alloc hs1 _) | (with_reducible exact below_setM _ _ _ (hk1.alloc hs1 _) hs1) | (with_reducible exact hk2.alloc hs2 _) | (with_reducible exact below_setM _ _ _ (hk2.alloc hs2 _) hs2) | (with_reducible exact below_setM _ _ _ hk2 (Nat.le_refl _)) | (with_reducible exact below_setM _ _ _ hk2 hs1)) (first | (go_at_call 37; first | ((with_reducible refine (HTh.out _ _ (by first | exact H_1.out.later (below_drew _) | exact H_1.out.later (below1 v1 _).drew)).mono ?_); rintro e u1 ⟨ao1, cap1, rfl, hm1, hd1⟩; have hk1 : Below v1.heap.size v1 u1 := (by first | exact below_trans2 (below_drew _) hd1 | exact below_trans2 (below1 v1 _).drew hd1); have hs1 := hk1.size; obtain ⟨hc1, hf1⟩ := below_cells hd1; (try have hz01 : v1.heap.size < u1.heap.size := (by have := hd1.size; first | omega | (simp at this; omega))))) | (go_at_call 21; first | ((with_reducible refine (HMk.out _ _ _ (by first | exact T_1.out.p.later hk1 | exact T_1.out.p.later (hk1.alloc hs1 _)) (by first | exact hm1.mv | exact (hm1.later (below1 _ _)).mv)).mono ?_); rintro e u2 ⟨ao2, cap2, rfl, hm2, hd2⟩; have hk2 : Below v1.heap.size v1 u2 := (by first | exact below_trans2 hk1 hd2 | exact below_trans2 (hk1.alloc hs1 _) hd2); have hs2 := hk2.size; obtain ⟨hc2, hf2⟩ := below_cells hd2; (try have hz02 : v1.heap.size < u2.heap.size := (by have := hd2.size; first | omega | (simp at this; omega))); (try have hz12 : u1.heap.size < u2.heap.size := (by have := hd2.size; first | omega | (simp at this; omega))))))
      all_goals go_wp2_with fail
      all_goals go_meet
      · exact ⟨_, ao2, cap2, rfl, rfl, heap_at _ _ _ rfl, (hm2.later (below1 _ _)).low (by first | exact hs1 | (simp; omega)), hk2.alloc hs2 _⟩
      · have hR := (block_later (heap_at u1 (rowM 0 0 none 0 0) _ rfl) hd2)
        exact ⟨_, ao2, cap2, rfl, rfl, storeM hR _ _ _ _ _, (hm2.set3 hR _ _ _).low (by first | exact hs1 | (simp; omega)), below_setM _ _ _ hk2 hs1⟩
      · have hR := (block_later (block_later (heap_at v1 (rowM 0 0 none 0 0) _ rfl) (below_trans2 (below_drew _) hd1)) hd2)
        exact ⟨_, ao2, cap2, rfl, rfl, storeM hR _ _ _ _ _, (hm2.set3 hR _ _ _).low (by first | exact hs1 | (simp; omega)), below_setM _ _ _ hk2 (Nat.le_refl _)⟩
    case rest =>
      obtain ⟨g22, a22, c22, rfl, rfl, h22, hm22, hk22⟩ := hcut
      clear k0a k0b k0c k0d k1a k1b k1c hk0
      have BK_2 := Lib.hid h22
      have HMK := Lib.hid hm22
      have HK22 := Lib.hid hk22
      clear h22 hm22 hk22
      go_upto_region 10 with fail
      go_cut [16] (fun s16 wx => s16 = .bool (og || o0) ∧ wc = wx)
      case first =>
        cases og
        all_goals go_wp2_with fail
        all_goals go_meet
        all_goals exact ⟨by simp, rfl⟩
      case rest =>
        obtain ⟨rfl, rfl⟩ := hcut
        obtain ⟨o1, ho1⟩ : ∃ b, (og || o0) = b := ⟨_, rfl⟩
        have HO1 := Lib.hid ho1
        rw [ho1]
        clear ho1
        obtain ⟨q, rfl, hqV, ⟨cq, hcq⟩, -, -, -⟩ := HMK.out.own.at (i := 0) (by have := HKL.out.2; omega)
        have hgq : g22 ≠ q := fun he => by have h := BK_2.out; rw [he, hcq] at h; simp [rowM] at h
        have hk8 : (k0.length : Int) ≤ 8 := by have := HKL.out.2; omega
        have hD0 : Hid (DwIn v1 g22 n q c22 k0 sv 0 wc) := (show DwIn _ _ _ _ _ _ _ _ _ from ⟨BK_2.out, by rw [dvL_zero]; exact HMK.out.own, HK22.out⟩)
        have hD1 : Hid (o1 = (o1 || dvO k0 sv 0)) := (show _ = _ by rw [show dvO k0 sv 0 = false from rfl, Bool.or_false])
        clear hcq BK_2 HMK HK22
        go_wp2_with fail
        go_loopg [16, 25] k0.length (fun k ov iv wr => ∃ i : Nat, i ≤ k0.length ∧ k = k0.length - i ∧ iv = .int .i64 i ∧ ov = .bool (o1 || dvO k0 sv i) ∧ DwIn v1 g22 n q c22 k0 sv i wr)
        case atStart => exact ⟨0, by omega, by omega, rfl, by rw [← hD1.out], hD0.out⟩
        case round =>
          clear hD0 hD1
          obtain ⟨i, hi, rfl, rfl, rfl, hD⟩ := hrel
          have HD := Lib.hid hD
          clear hD
          obtain ⟨lo, hlo⟩ : ∃ b, (o1 || dvO k0 sv i) = b := ⟨_, rfl⟩
          have HOB := Lib.hid hlo
          rw [hlo]
          clear hlo
          have r22 := rowM_cell HD.out.m
          by_cases hlt : i < k0.length
          · have hil : (i : Int) < (k0.length : Int) := by omega
            obtain ⟨q', hq', hqb, ⟨cs, hcs⟩, hci, hfi, hset⟩ := HD.out.own.at (i := i) (by rw [dvL_len]; exact hlt)
            injection hq' with hq'
            injection hq' with hq'
            subst hq'
            rw [dvL_at k0 sv hlt] at hci
            obtain ⟨x, hx⟩ : ∃ x, k0.getD i 0 = x := ⟨_, rfl⟩
            rw [hx] at hci
            have hst := dvL_step k0 sv hlt
            have hso := dvO_succ k0 sv i
            rw [hx] at hst hso
            obtain ⟨z', hz⟩ : ∃ z, divQ x sv = z := ⟨_, rfl⟩
            obtain ⟨zo, hzo⟩ : ∃ z, divO x sv = z := ⟨_, rfl⟩
            rw [hz] at hst
            rw [hzo] at hso
            have HZ := Lib.hid (And.intro hz hzo)
            have HST := Lib.hid (And.intro hst hso)
            have HSet := Lib.hid hset
            have HCS := Lib.hid hcs
            clear hst hso hz hzo hx hset hcs
            have hDv := fun w => rdiv_any x sv w
            rw [HZ.out.1, HZ.out.2] at hDv
            have HDv := Lib.hid hDv
            clear hDv
            as_aux_lemma =>
            cases lo
            all_goals
              go_wp2_with (go_at_call 42; (refine (HDv.out _).mono ?_); rintro e w1 ⟨rfl, rfl⟩)
              go_roundg (k0.length - (i + 1))
              case measure => omega
              case rel =>
                refine ⟨i + 1, by omega, rfl, by go_num, by rw [HST.out.2, ← Bool.or_assoc, HOB.out]; simp, ⟨rowM_setQ HD.out.m HCS.out _ _, ?_, HD.out.hk.setCell hqb _⟩⟩
                have h := HSet.out z'
                rw [HST.out.1] at h
                exact h
          · have hin : i = k0.length := by omega
            subst hin
            have hmk := HD.out.m
            have how := HD.out.own
            rw [HKD.out.1] at how
            rw [HKD.out.2] at HOB
            have hkl := HKL.out.1
            rw [← hkl] at hmk how
            have BK := Lib.hid hmk
            have HKO : Hid (MO wr v1.heap.size n 1 (.slice (some ⟨q, 0, none⟩) kd.length c22) kd) := (show MO _ _ _ _ _ _ from ⟨how, by rw [hkl, HKL.out.2], hn8, by omega⟩)
            have HKW := Lib.hid HD.out.hk
            have B0 := Lib.hid (block_later B0_1.out HD.out.hk)
            have B1 := Lib.hid (block_later B1_1.out HD.out.hk)
            have B2 := Lib.hid (block_later B2_1.out HD.out.hk)
            have HTT := Lib.hid (T_1.out.later HD.out.hk)
            have HHH := Lib.hid (H_1.out.later HD.out.hk)
            clear hmk how HD hkl hlt B0_1 B1_1 B2_1 T_1 H_1
            have HF : Hid (lo = (((io || mo) || go) || (o0 || od))) := (show _ = _ by rw [← HOB.out, ← HO1.out, ← HOG.out]; simp [Bool.or_assoc])
            have hv1w := HB.out.size
            go_upto_region 17 with fail
            clear r22 HOB HO1 HOG HI HYY HGS HG HTh HMk HKL HKD e8 hq hs0 hk8 hqV hgq hi
            have c_BK := rowM_cell BK.out
            go_upto_region 18 with (go_at_call 33; (refine (HSy.out _ _ HKO.out.mv).mono ?_); rintro e u ⟨ao, cap, rfl, hm, hd⟩)
            obtain ⟨p1, hg⟩ : ∃ g, g = u.heap.size := ⟨_, rfl⟩
            obtain ⟨V1, hV⟩ : ∃ V, V = u.alloc (rowM n 1 ao sy.length cap) := ⟨_, rfl⟩
            have hb : Below wr.heap.size wr V1 := by rw [hV]; exact below_al hd _
            have NY : Hid (V1.heap[p1]? = some (rowM n 1 ao sy.length cap)) := by show _ = _; rw [hV]; exact heap_at _ _ _ hg
            have MY : Hid (MO V1 v1.heap.size n 1 (.slice ao sy.length cap) sy) := by rw [hV]; exact (hm.later (below1 _ _)).low HKW.out.size
            rw [← hg]
            unfold rowM at hV
            rw [← hV]
            clear hV hg hm hd HSy c_BK
            have B0x := Lib.hid (block_later B0.out hb)
            have B1x := Lib.hid (block_later B1.out hb)
            have B2x := Lib.hid (block_later B2.out hb)
            have BKx := Lib.hid (block_later BK.out hb)
            have HKOx := Lib.hid (HKO.out.later hb)
            have HTTx := Lib.hid (HTT.out.later hb)
            have HHHx := Lib.hid (HHH.out.later hb)
            have HKWx := Lib.hid (below_trans2' HKW.out hb HKW.out.size)
            clear B0 B1 B2 BK HKO HTT HHH HKW
            have B0 := B0x
            clear B0x
            have B1 := B1x
            clear B1x
            have B2 := B2x
            clear B2x
            have BK := BKx
            clear BKx
            have HKO := HKOx
            clear HKOx
            have HTT := HTTx
            clear HTTx
            have HHH := HHHx
            clear HHHx
            have HKW := HKWx
            clear HKWx
            clear hb
            skip
            have c_B0 := rowT_cell B0.out
            have c_NY := rowM_cell NY.out
            go_upto_region 19 with (go_at_call 17; (refine (HAx.out _ _ _ HTT.out.x MY.out.mv).mono ?_); rintro e u ⟨aX, kX, rfl, hm, hd⟩)
            obtain ⟨p2, hg⟩ : ∃ g, g = u.heap.size := ⟨_, rfl⟩
            obtain ⟨V2, hV⟩ : ∃ V, V = u.alloc (rowM n 1 aX lx.length kX) := ⟨_, rfl⟩
            have hb : Below V1.heap.size V1 V2 := by rw [hV]; exact below_al hd _
            have NX : Hid (V2.heap[p2]? = some (rowM n 1 aX lx.length kX)) := by show _ = _; rw [hV]; exact heap_at _ _ _ hg
            have MX : Hid (MO V2 v1.heap.size n 1 (.slice aX lx.length kX) lx) := by rw [hV]; exact (hm.later (below1 _ _)).low HKW.out.size
            rw [← hg]
            unfold rowM at hV
            rw [← hV]
            clear hV hg hm hd HAx c_B0 c_NY
            have B0x := Lib.hid (block_later B0.out hb)
            have B1x := Lib.hid (block_later B1.out hb)
            have B2x := Lib.hid (block_later B2.out hb)
            have BKx := Lib.hid (block_later BK.out hb)
            have HKOx := Lib.hid (HKO.out.later hb)
            have HTTx := Lib.hid (HTT.out.later hb)
            have HHHx := Lib.hid (HHH.out.later hb)
            have HKWx := Lib.hid (below_trans2' HKW.out hb HKW.out.size)
            clear B0 B1 B2 BK NY HKO MY HTT HHH HKW
            have B0 := B0x
            clear B0x
            have B1 := B1x
            clear B1x
            have B2 := B2x
            clear B2x
            have BK := BKx
            clear BKx
            have HKO := HKOx
            clear HKOx
            have HTT := HTTx
            clear HTTx
            have HHH := HHHx
            clear HHHx
            have HKW := HKWx
            clear HKWx
            clear hb
            skip
            have c_B0 := rowT_cell B0.out
            go_upto_region 20 with (go_at_call 29; (refine (HEy.out _).mono ?_); rintro e u ⟨ao, cap, rfl, hm, hd⟩)
            obtain ⟨p3, hg⟩ : ∃ g, g = u.heap.size := ⟨_, rfl⟩
            obtain ⟨V3, hV⟩ : ∃ V, V = u.alloc (rowM n n ao le.length cap) := ⟨_, rfl⟩
            have hb : Below V2.heap.size V2 V3 := by rw [hV]; exact below_al hd _
            have NE : Hid (V3.heap[p3]? = some (rowM n n ao le.length cap)) := by show _ = _; rw [hV]; exact heap_at _ _ _ hg
            have ME : Hid (MO V3 v1.heap.size n n (.slice ao le.length cap) le) := by rw [hV]; exact (hm.later (below1 _ _)).low HKW.out.size
            rw [← hg]
            unfold rowM at hV
            rw [← hV]
            clear hV hg hm hd HEy c_B0
            have B0x := Lib.hid (block_later B0.out hb)
            have B1x := Lib.hid (block_later B1.out hb)
            have B2x := Lib.hid (block_later B2.out hb)
            have BKx := Lib.hid (block_later BK.out hb)
            have NXx := Lib.hid (block_later NX.out hb)
            have HKOx := Lib.hid (HKO.out.later hb)
            have MXx := Lib.hid (MX.out.later hb)
            have HTTx := Lib.hid (HTT.out.later hb)
            have HHHx := Lib.hid (HHH.out.later hb)
            have HKWx := Lib.hid (below_trans2' HKW.out hb HKW.out.size)
            clear B0 B1 B2 BK NX HKO MX HTT HHH HKW
            have B0 := B0x
            clear B0x
            have B1 := B1x
            clear B1x
            have B2 := B2x
            clear B2x
            have BK := BKx
            clear BKx
            have NX := NXx
            clear NXx
            have HKO := HKOx
            clear HKOx
            have MX := MXx
            clear MXx
            have HTT := HTTx
            clear HTTx
            have HHH := HHHx
            clear HHHx
            have HKW := HKWx
            clear HKWx
            clear hb
            skip
            have c_BK := rowM_cell BK.out
            have c_B1 := rowM_cell B1.out
            go_upto_region 21 with (go_at_call 21; (refine (HKh.out _ _ _ HKO.out.mv HHH.out).mono ?_); rintro e u ⟨ao, cap, rfl, hm, hd⟩)
            obtain ⟨p4, hg⟩ : ∃ g, g = u.heap.size := ⟨_, rfl⟩
            obtain ⟨V4, hV⟩ : ∃ V, V = u.alloc (rowM n n ao lk.length cap) := ⟨_, rfl⟩
            have hb : Below V3.heap.size V3 V4 := by rw [hV]; exact below_al hd _
            have NH : Hid (V4.heap[p4]? = some (rowM n n ao lk.length cap)) := by show _ = _; rw [hV]; exact heap_at _ _ _ hg
            have MH : Hid (MO V4 v1.heap.size n n (.slice ao lk.length cap) lk) := by rw [hV]; exact (hm.later (below1 _ _)).low HKW.out.size
            rw [← hg]
            unfold rowM at hV
            rw [← hV]
            clear hV hg hm hd HKh c_BK c_B1
            have B0x := Lib.hid (block_later B0.out hb)
            have B2x := Lib.hid (block_later B2.out hb)
            have BKx := Lib.hid (block_later BK.out hb)
            have NXx := Lib.hid (block_later NX.out hb)
            have NEx := Lib.hid (block_later NE.out hb)
            have HKOx := Lib.hid (HKO.out.later hb)
            have MXx := Lib.hid (MX.out.later hb)
            have MEx := Lib.hid (ME.out.later hb)
            have HTTx := Lib.hid (HTT.out.later hb)
            have HKWx := Lib.hid (below_trans2' HKW.out hb HKW.out.size)
            clear B0 B1 B2 BK NX NE HKO MX ME HTT HHH HKW
            have B0 := B0x
            clear B0x
            have B2 := B2x
            clear B2x
            have BK := BKx
            clear BKx
            have NX := NXx
            clear NXx
            have NE := NEx
            clear NEx
            have HKO := HKOx
            clear HKOx
            have MX := MXx
            clear MXx
            have ME := MEx
            clear MEx
            have HTT := HTTx
            clear HTTx
            have HKW := HKWx
            clear HKWx
            clear hb
            skip
            have c_NE := rowM_cell NE.out
            have c_NH := rowM_cell NH.out
            go_upto_region 22 with (go_at_call 19; (refine (HSi.out _ _ _ ME.out.mv MH.out.mv).mono ?_); rintro e u ⟨ao, cap, rfl, hm, hd⟩)
            obtain ⟨p5, hg⟩ : ∃ g, g = u.heap.size := ⟨_, rfl⟩
            obtain ⟨V5, hV⟩ : ∃ V, V = u.alloc (rowM n n ao li.length cap) := ⟨_, rfl⟩
            have hb : Below V4.heap.size V4 V5 := by rw [hV]; exact below_al hd _
            have NI : Hid (V5.heap[p5]? = some (rowM n n ao li.length cap)) := by show _ = _; rw [hV]; exact heap_at _ _ _ hg
            have MI : Hid (MO V5 v1.heap.size n n (.slice ao li.length cap) li) := by rw [hV]; exact (hm.later (below1 _ _)).low HKW.out.size
            rw [← hg]
            unfold rowM at hV
            rw [← hV]
            clear hV hg hm hd HSi c_NE c_NH
            have B0x := Lib.hid (block_later B0.out hb)
            have B2x := Lib.hid (block_later B2.out hb)
            have BKx := Lib.hid (block_later BK.out hb)
            have NXx := Lib.hid (block_later NX.out hb)
            have HKOx := Lib.hid (HKO.out.later hb)
            have MXx := Lib.hid (MX.out.later hb)
            have HTTx := Lib.hid (HTT.out.later hb)
            have HKWx := Lib.hid (below_trans2' HKW.out hb HKW.out.size)
            clear B0 B2 BK NX NE NH HKO MX ME MH HTT HKW
            have B0 := B0x
            clear B0x
            have B2 := B2x
            clear B2x
            have BK := BKx
            clear BKx
            have NX := NXx
            clear NXx
            have HKO := HKOx
            clear HKOx
            have MX := MXx
            clear MXx
            have HTT := HTTx
            clear HTTx
            have HKW := HKWx
            clear HKWx
            clear hb
            skip
            have c_NI := rowM_cell NI.out
            have c_B0 := rowT_cell B0.out
            go_upto_region 23 with (go_at_call 107; (refine (HBt.out _ _ _ MI.out.mv HTT.out.p).mono ?_); rintro e u ⟨ao, cap, rfl, hm, hd⟩)
            obtain ⟨p6, hg⟩ : ∃ g, g = u.heap.size := ⟨_, rfl⟩
            obtain ⟨V6, hV⟩ : ∃ V, V = u.alloc (rowM n n ao lb.length cap) := ⟨_, rfl⟩
            have hb : Below V5.heap.size V5 V6 := by rw [hV]; exact below_al hd _
            have NB : Hid (V6.heap[p6]? = some (rowM n n ao lb.length cap)) := by show _ = _; rw [hV]; exact heap_at _ _ _ hg
            have MB : Hid (MO V6 v1.heap.size n n (.slice ao lb.length cap) lb) := by rw [hV]; exact (hm.later (below1 _ _)).low HKW.out.size
            rw [← hg]
            unfold rowM at hV
            rw [← hV]
            clear hV hg hm hd HBt c_NI c_B0
            have B0x := Lib.hid (block_later B0.out hb)
            have B2x := Lib.hid (block_later B2.out hb)
            have BKx := Lib.hid (block_later BK.out hb)
            have NXx := Lib.hid (block_later NX.out hb)
            have HKOx := Lib.hid (HKO.out.later hb)
            have MXx := Lib.hid (MX.out.later hb)
            have HKWx := Lib.hid (below_trans2' HKW.out hb HKW.out.size)
            clear B0 B2 BK NX NI HKO MX MI HTT HKW
            have B0 := B0x
            clear B0x
            have B2 := B2x
            clear B2x
            have BK := BKx
            clear BKx
            have NX := NXx
            clear NXx
            have HKO := HKOx
            clear HKOx
            have MX := MXx
            clear MXx
            have HKW := HKWx
            clear HKWx
            clear hb
            skip
            have c_BK := rowM_cell BK.out
            go_upto_region 24 with (go_at_call 33; (refine (HSr.out _ _ HKO.out.mv).mono ?_); rintro e u ⟨ao, cap, rfl, hm, hd⟩)
            obtain ⟨p7, hg⟩ : ∃ g, g = u.heap.size := ⟨_, rfl⟩
            obtain ⟨V7, hV⟩ : ∃ V, V = u.alloc (rowM n 1 ao sr.length cap) := ⟨_, rfl⟩
            have hb : Below V6.heap.size V6 V7 := by rw [hV]; exact below_al hd _
            have NR : Hid (V7.heap[p7]? = some (rowM n 1 ao sr.length cap)) := by show _ = _; rw [hV]; exact heap_at _ _ _ hg
            have MR : Hid (MO V7 v1.heap.size n 1 (.slice ao sr.length cap) sr) := by rw [hV]; exact (hm.later (below1 _ _)).low HKW.out.size
            rw [← hg]
            unfold rowM at hV
            rw [← hV]
            clear hV hg hm hd HSr c_BK
            have B2x := Lib.hid (block_later B2.out hb)
            have BKx := Lib.hid (block_later BK.out hb)
            have NXx := Lib.hid (block_later NX.out hb)
            have NBx := Lib.hid (block_later NB.out hb)
            have HKOx := Lib.hid (HKO.out.later hb)
            have MXx := Lib.hid (MX.out.later hb)
            have MBx := Lib.hid (MB.out.later hb)
            have HKWx := Lib.hid (below_trans2' HKW.out hb HKW.out.size)
            clear B0 B2 BK NX NB HKO MX MB HKW
            have B2 := B2x
            clear B2x
            have BK := BKx
            clear BKx
            have NX := NXx
            clear NXx
            have NB := NBx
            clear NBx
            have HKO := HKOx
            clear HKOx
            have MX := MXx
            clear MXx
            have MB := MBx
            clear MBx
            have HKW := HKWx
            clear HKWx
            clear hb
            skip
            have c_NR := rowM_cell NR.out
            have c_BK := rowM_cell BK.out
            have y1 := cells_later c_NR.1
            have y2 := cells_later c_NR.2.1
            have y3 := cells_later c_NR.2.2
            have y4 := cells_later c_BK.1
            have y5 := cells_later c_BK.2.1
            have y6 := cells_later c_BK.2.2
            have hkz := Below.refl V7.heap.size V7
            clear c_NR c_BK
            go_cut [45, 46] (fun s45 s46 wx => ∃ g a c, s45 = .pointer (some ⟨g, 0, none⟩) ∧ s46 = .bool om ∧ wx.heap[g]? = some (rowM n n a lr.length c) ∧ MO wx v1.heap.size n n (.slice a lr.length c) lr ∧ Below V7.heap.size V7 wx)
            case first =>
              as_aux_lemma =>
              go_region_held3 (fun w' => Below V7.heap.size V7 w') (first | (with_reducible assumption) | (with_reducible exact below_drew _) | (with_reducible exact (below1 V7 _).drew) | (with_reducible exact hk1.alloc hs1 _) | (with_reducible exact below_setM _ _ _ (hk1.alloc hs1 _) hs1) | (with_reducible exact hk2.alloc hs2 _) | (with_reducible exact below_setM _ _ _ (hk2.alloc hs2 _) hs2) | (with_reducible exact below_setM _ _ _ hk2 (Nat.le_refl _)) | (with_reducible exact below_setM _ _ _ hk2 hs1)) (first | (go_at_call 37; first | ((with_reducible refine (HTk.out _ _ (by first | exact HKO.out.mv.later (below_drew _) | exact HKO.out.mv.later (below1 V7 _).drew)).mono ?_); rintro e u1 ⟨ao1, cap1, rfl, hm1, hd1⟩; have hk1 : Below V7.heap.size V7 u1 := (by first | exact below_trans2 (below_drew _) hd1 | exact below_trans2 (below1 V7 _).drew hd1); have hs1 := hk1.size; obtain ⟨hc1, hf1⟩ := below_cells hd1; (try have hz01 : V7.heap.size < u1.heap.size := (by have := hd1.size; first | omega | (simp at this; omega))))) | (go_at_call 21; first | ((with_reducible refine (HMr.out _ _ _ (by first | exact MR.out.mv.later hk1 | exact MR.out.mv.later (hk1.alloc hs1 _)) (by first | exact hm1.mv | exact (hm1.later (below1 _ _)).mv)).mono ?_); rintro e u2 ⟨ao2, cap2, rfl, hm2, hd2⟩; have hk2 : Below V7.heap.size V7 u2 := (by first | exact below_trans2 hk1 hd2 | exact below_trans2 (hk1.alloc hs1 _) hd2); have hs2 := hk2.size; obtain ⟨hc2, hf2⟩ := below_cells hd2; (try have hz02 : V7.heap.size < u2.heap.size := (by have := hd2.size; first | omega | (simp at this; omega))); (try have hz12 : u1.heap.size < u2.heap.size := (by have := hd2.size; first | omega | (simp at this; omega))))))
              all_goals go_wp2_with fail
              all_goals go_meet
              · exact ⟨_, ao2, cap2, rfl, rfl, heap_at _ _ _ rfl, (hm2.later (below1 _ _)).low (by have := HKW.out.size; first | omega | (simp; omega)), hk2.alloc hs2 _⟩
              · have hR := (block_later (heap_at u1 (rowM 0 0 none 0 0) _ rfl) hd2)
                exact ⟨_, ao2, cap2, rfl, rfl, storeM hR _ _ _ _ _, (hm2.set3 hR _ _ _).low (by have := HKW.out.size; first | omega | (simp; omega)), below_setM _ _ _ hk2 hs1⟩
              · have hR := (block_later (block_later (heap_at V7 (rowM 0 0 none 0 0) _ rfl) (below_trans2 (below_drew _) hd1)) hd2)
                exact ⟨_, ao2, cap2, rfl, rfl, storeM hR _ _ _ _ _, (hm2.set3 hR _ _ _).low (by have := HKW.out.size; first | omega | (simp; omega)), below_setM _ _ _ hk2 (Nat.le_refl _)⟩
            case rest =>
              obtain ⟨g45, a45, c45, rfl, rfl, h45, hm45, hk45⟩ := hcut
              clear y1 y2 y3 y4 y5 y6 hkz HTk HMr
              have B2x := Lib.hid (block_later B2.out hk45)
              have NXx := Lib.hid (block_later NX.out hk45)
              have NBx := Lib.hid (block_later NB.out hk45)
              have MXx := Lib.hid (MX.out.later hk45)
              have MBx := Lib.hid (MB.out.later hk45)
              have HKWx := Lib.hid (below_trans2' HKW.out hk45 HKW.out.size)
              clear B2 BK NX NB NR HKO MX MB MR HKW
              have B2 := B2x
              clear B2x
              have NX := NXx
              clear NXx
              have NB := NBx
              clear NBx
              have MX := MXx
              clear MXx
              have MB := MBx
              clear MBx
              have HKW := HKWx
              clear HKWx
              have NM := Lib.hid h45
              have MM := Lib.hid hm45
              clear h45 hm45 hk45
              have c_NB := rowM_cell NB.out
              have c_NM := rowM_cell NM.out
              go_upto_region 26 with (go_at_call 17; (refine (HAp.out _ _ _ MB.out.mv MM.out.mv).mono ?_); rintro e u ⟨ao, cap, rfl, hm, hd⟩)
              obtain ⟨p8, hg⟩ : ∃ g, g = u.heap.size := ⟨_, rfl⟩
              obtain ⟨V8, hV⟩ : ∃ V, V = u.alloc (rowM n n ao la.length cap) := ⟨_, rfl⟩
              have hb : Below wc.heap.size wc V8 := by rw [hV]; exact below_al hd _
              have NP : Hid (V8.heap[p8]? = some (rowM n n ao la.length cap)) := by show _ = _; rw [hV]; exact heap_at _ _ _ hg
              have MP : Hid (MO V8 v1.heap.size n n (.slice ao la.length cap) la) := by rw [hV]; exact (hm.later (below1 _ _)).low HKW.out.size
              rw [← hg]
              unfold rowM at hV
              rw [← hV]
              clear hV hg hm hd HAp c_NB c_NM
              have B2x := Lib.hid (block_later B2.out hb)
              have NXx := Lib.hid (block_later NX.out hb)
              have MXx := Lib.hid (MX.out.later hb)
              have HKWx := Lib.hid (below_trans2' HKW.out hb HKW.out.size)
              clear B2 NX NB NM MX MB MM HKW
              have B2 := B2x
              clear B2x
              have NX := NXx
              clear NXx
              have MX := MXx
              clear MXx
              have HKW := HKWx
              clear HKWx
              clear hb
              skip
              as_aux_lemma =>
                go_cut [16] (fun s16 wx => s16 = .bool ((((((((lo || oy) || ox) || ok) || oi) || ob) || or') || om) || oa) ∧ V8 = wx)
                case first =>
                  cases lo
                  rotate_left
                  · go_wp2_with fail
                    go_meet
                    exact ⟨by simp, rfl⟩
                  cases oy
                  rotate_left
                  · go_wp2_with fail
                    go_meet
                    exact ⟨by simp, rfl⟩
                  cases ox
                  rotate_left
                  · go_wp2_with fail
                    go_meet
                    exact ⟨by simp, rfl⟩
                  cases ok
                  rotate_left
                  · go_wp2_with fail
                    go_meet
                    exact ⟨by simp, rfl⟩
                  cases oi
                  rotate_left
                  · go_wp2_with fail
                    go_meet
                    exact ⟨by simp, rfl⟩
                  cases ob
                  rotate_left
                  · go_wp2_with fail
                    go_meet
                    exact ⟨by simp, rfl⟩
                  cases or'
                  rotate_left
                  · go_wp2_with fail
                    go_meet
                    exact ⟨by simp, rfl⟩
                  cases om
                  rotate_left
                  · go_wp2_with fail
                    go_meet
                    exact ⟨by simp, rfl⟩
                  go_wp2_with fail
                  go_meet
                  exact ⟨by simp, rfl⟩
                case rest =>
                  obtain ⟨rfl, rfl⟩ := hcut
                  obtain ⟨ov, hov⟩ : ∃ b, ((((((((lo || oy) || ox) || ok) || oi) || ob) || or') || om) || oa) = b := ⟨_, rfl⟩
                  have HOV := Lib.hid hov
                  rw [hov]
                  clear hov
                  have hs6 : s + 1 + 1 < V8.heap.size := lt_of_block B2.out
                  have hneX := lt_of_block NX.out
                  have HMd : Hid (MV V8.drew n n (.slice ao la.length cap) la) := MP.out.mv.later (below_drew _)
                  have yX := rowM_but (f := s + 1 + 1) NX.out (fun he => by have h := NX.out; rw [he, B2.out] at h; simp [rowM, rowT] at h)
                  have yP := rowM_but (f := s + 1 + 1) NP.out (fun he => by have h := NP.out; rw [he, B2.out] at h; simp [rowM, rowT] at h)
                  go_upto_region 27 with fail
                  first | (go_region_held3 (fun w' => But (s + 1 + 1) V8 w') (first | (with_reducible assumption) | (with_reducible exact hkg.setT _ _ _ _ _ _) | exact but_drew _ _) (first | (go_at_call 108; refine (HGd.out _ _ HMd.out).mono ?_; rintro e u1 ⟨ag, cg, rfl, hmg, hdg⟩; have hkg : But (s + 1 + 1) V8 u1 := (but_drew _ _).trans (But.of_below hdg); have hr1 := block_later (show V8.drew.heap[s + 1 + 1]? = _ from B2.out) hdg; have hrc := rowT_cell hr1; have hrf := rowT_frozen hr1))) | fail
                  go_wp2_with fail
                  have hbx : Below s w u1 := by rw [← hsz]; exact below_trans2 HB.out (below_trans2' HKW.out (below_trans2 (below_drew _) hdg) HKW.out.size)
                  have hbf := below_setT (w := u1) (.int .i64 n) (.int .i64 1) (.slice aX lx.length kX) (.int .i64 n) (.int .i64 n) (.slice ag lg.length cg) hbx (show s ≤ s + 1 + 1 by omega)
                  refine bodyPost_ret (results_t4 rfl _ _ (s + 1 + 1) n 1 aX lx.length kX n n ag lg.length cg rfl (storeT hr1 _ _ _ _ _ _ _ _ _ _)) rfl ⟨aX, kX, ag, cg, by rw [← HOV.out, HF.out]; simp [Bool.or_assoc], ?_, ?_, ?_⟩
                  · exact (((MX.out.later (below_drew _)).later hdg).setT _ _ _ _ _ _ hr1).own.qs
                  · exact (hmg.setT _ _ _ _ _ _ hr1).own.qs
                  · first | (with_reducible exact hbf) | (rw [hsz]; exact hbf)

end Go.Proofs.Ytijohedhbbddjaa

namespace Go.Proofs.Ytijohedhbbddjaa
open Go.RowKit

structure TR where
  xr : Int
  xc : Int
  xs : List Int
  pr : Int
  pc : Int
  ps : List Int
  taken : Bool
  odd : Bool
  err : Int
def TR.no (err : Int) : TR := ⟨0, 0, [], 0, 0, [], false, false, err⟩
def GivesP (p : TR) (w : World) (e : Ending) (w' : World) : Prop := GivesTr p.xr p.xc p.xs p.pr p.pc p.ps p.odd p.err w e w'
def GivesV (p : TR) (w : World) (e : Ending) (w' : World) : Prop := GivesU p.xr p.xc p.xs p.pr p.pc p.ps p.taken p.odd p.err w e w'
def predR (n fr fc qr qc : Nat) (xs ps fs qs : List Int) : TR := if fr = n ∧ fc = n ∧ qr = n ∧ qc = n then ⟨n, 1, predX fs xs n, n, n, predP fs qs ps n, false, predO fs qs xs ps n, 0⟩ else TR.no 9
def updR (n hr hc : Nat) (xs ps hs : List Int) (z r gate : Int) : TR :=
  if mayN n hr hc r ≠ 0 then TR.no (mayN n hr hc r) else
  if gateB (inY hs xs z n) (inS hs ps r n) gate = true then ⟨n, 1, xs, n, n, ps, false, updO hs xs ps z r gate n, 0⟩
  else ⟨n, 1, tkX (tkK ps hs (inS hs ps r n) n) xs (inY hs xs z n) n, n, n, tkP (tkK ps hs (inS hs ps r n) n) ps hs r n, true, (updO hs xs ps z r gate n || tkO0 ps hs (inS hs ps r n) n) || tkO1 (tkK ps hs (inS hs ps r n) n) xs hs ps (inY hs xs z n) r n, 0⟩
structure IR where
  y : Int
  s : Int
  odd : Bool
  err : Int
def innR (n hr hc : Nat) (xs ps hs : List Int) (z r : Int) : IR := if mayN n hr hc r ≠ 0 then ⟨0, 0, false, mayN n hr hc r⟩ else ⟨inY hs xs z n, inS hs ps r n, inO hs xs ps z r n, 0⟩
def GivesI (p : IR) (w : World) (e : Ending) (w' : World) : Prop := e = .returned (.tuple #[.int .i64 p.y, .int .i64 p.s, .bool p.odd, .int .i64 p.err]) ∧ Below w.heap.size w w'
theorem may_parts {n hr hc : Nat} {r : Int} (h : ¬ mayN n hr hc r ≠ 0) : hr = 1 ∧ hc = n ∧ 0 < r := by
  unfold mayN at h
  by_cases h1 : (hr : Int) ≠ 1 ∨ (hc : Int) ≠ n
  · rw [if_pos h1] at h; exact absurd (by decide) h
  · rw [if_neg h1] at h
    by_cases h2 : r ≤ 0
    · rw [if_pos h2] at h; exact absurd (by decide) h
    · omega

section
variable (w : World) (n : Nat) (vx vp : Value) (xs ps : List Int) (ht : TMV w n vx vp xs ps)
include ht
theorem predict_all (fr fc qr qc : Nat) (vf vq : Value) (fs qs : List Int) (hf : MV w fr fc vf fs) (hq : MV w qr qc vq qs) :
    Calls Try.prog 61 #[.agg #[.int .i64 n, .int .i64 1, vx, .int .i64 n, .int .i64 n, vp], .agg #[.int .i64 fr, .int .i64 fc, vf], .agg #[.int .i64 qr, .int .i64 qc, vq]] w (GivesP (predR n fr fc qr qc xs ps fs qs) w) := by
  obtain ⟨ax, cx, rfl, -⟩ := id ht.x.qs
  obtain ⟨ap, cp, rfl, -⟩ := id ht.p.qs
  obtain ⟨af, cf, rfl, -⟩ := id hf.qs
  obtain ⟨aq, cq, rfl, -⟩ := id hq.qs
  unfold predR
  split
  · rename_i h
    obtain ⟨rfl, rfl, rfl, rfl⟩ := h
    exact predict_any w _ _ _ _ _ xs ps fs qs ht hf hq
  · rename_i h
    exact predict_no w n 1 n n fr fc qr qc ax ap af aq xs.length cx ps.length cp fs.length cf qs.length cq (fun hh => h (by omega))
theorem rpredict_all (fr fc qr qc : Nat) (vf vq : Value) (fs qs : List Int) (hf : MV w fr fc vf fs) (hq : MV w qr qc vq qs) :
    Calls Try.prog 62 #[.agg #[.int .i64 n, .int .i64 1, vx, .int .i64 n, .int .i64 n, vp], .agg #[.int .i64 fr, .int .i64 fc, vf], .agg #[.int .i64 qr, .int .i64 qc, vq]] w (GivesP (predR n fr fc qr qc xs ps fs qs) w) := by
  obtain ⟨ax, cx, rfl, -⟩ := id ht.x.qs
  obtain ⟨ap, cp, rfl, -⟩ := id ht.p.qs
  obtain ⟨af, cf, rfl, -⟩ := id hf.qs
  obtain ⟨aq, cq, rfl, -⟩ := id hq.qs
  unfold predR
  split
  · rename_i h
    obtain ⟨rfl, rfl, rfl, rfl⟩ := h
    exact rpredict_any w _ _ _ _ _ xs ps fs qs ht hf hq
  · rename_i h
    exact rpredict_no w n 1 n n fr fc qr qc ax ap af aq xs.length cx ps.length cp fs.length cf qs.length cq (fun hh => h (by omega))
variable (hr hc : Nat) (vh : Value) (hs : List Int) (z r gate : Int) (hh : MV w hr hc vh hs) (hn1 : 1 ≤ n)
include hh hn1
theorem update_all : Calls Try.prog 63 #[.agg #[.int .i64 n, .int .i64 1, vx, .int .i64 n, .int .i64 n, vp], .agg #[.int .i64 hr, .int .i64 hc, vh], .int .i64 z, .int .i64 r, .int .i64 gate] w (GivesV (updR n hr hc xs ps hs z r gate) w) := by
  obtain ⟨ax, cx, rfl, -⟩ := id ht.x.qs
  obtain ⟨ap, cp, rfl, -⟩ := id ht.p.qs
  obtain ⟨ah, ch, rfl, -⟩ := id hh.qs
  unfold updR
  split
  · rename_i h
    exact update_no w n 1 n n hr hc z r gate ax ap ah xs.length cx ps.length cp hs.length ch h
  · rename_i h
    obtain ⟨rfl, rfl, hr0⟩ := may_parts h
    split
    · rename_i hg
      exact update_gate w hc _ _ _ xs ps hs z r gate hr0 hn1 ht hh hg
    · rename_i hg
      exact update_take w hc _ _ _ xs ps hs z r gate hr0 hn1 ht hh (by simpa using hg)
theorem rupdate_all : Calls Try.prog 64 #[.agg #[.int .i64 n, .int .i64 1, vx, .int .i64 n, .int .i64 n, vp], .agg #[.int .i64 hr, .int .i64 hc, vh], .int .i64 z, .int .i64 r, .int .i64 gate] w (GivesV (updR n hr hc xs ps hs z r gate) w) := by
  obtain ⟨ax, cx, rfl, -⟩ := id ht.x.qs
  obtain ⟨ap, cp, rfl, -⟩ := id ht.p.qs
  obtain ⟨ah, ch, rfl, -⟩ := id hh.qs
  unfold updR
  split
  · rename_i h
    exact rupdate_no w n 1 n n hr hc z r gate ax ap ah xs.length cx ps.length cp hs.length ch h
  · rename_i h
    obtain ⟨rfl, rfl, hr0⟩ := may_parts h
    split
    · rename_i hg
      exact rupdate_gate w hc _ _ _ xs ps hs z r gate hr0 hn1 ht hh hg
    · rename_i hg
      exact rupdate_take w hc _ _ _ xs ps hs z r gate hr0 hn1 ht hh (by simpa using hg)
end
theorem mulL_len (xs ys : List Int) (r m c : Nat) : (mulL xs ys r m c).length = r * c := by unfold mulL; rw [tab_length]
theorem eachL_len (g : Int → Int → Int) (xs ys : List Int) (r c : Nat) : (eachL g xs ys r c).length = r * c := by unfold eachL; rw [tab_length]
theorem predR_len {n fr fc qr qc : Nat} {xs ps fs qs : List Int} (hn : n ≤ 8) : (predR n fr fc qr qc xs ps fs qs).xs.length ≤ 64 ∧ (predR n fr fc qr qc xs ps fs qs).ps.length ≤ 64 := by
  unfold predR
  split
  · exact ⟨by show (predX fs xs n).length ≤ 64; unfold predX; rw [mulL_len]; omega, by show (predP fs qs ps n).length ≤ 64; unfold predP; rw [goodL_len]; exact mat_len hn hn⟩
  · exact ⟨by simp [TR.no], by simp [TR.no]⟩
theorem updR_len {n hr hc : Nat} {xs ps hs : List Int} {z r gate : Int} (hn : n ≤ 8) (hx : xs.length ≤ 64) (hp : ps.length ≤ 64) : (updR n hr hc xs ps hs z r gate).xs.length ≤ 64 ∧ (updR n hr hc xs ps hs z r gate).ps.length ≤ 64 := by
  unfold updR
  split
  · exact ⟨by simp [TR.no], by simp [TR.no]⟩
  · split
    · exact ⟨hx, hp⟩
    · exact ⟨by show (tkX _ xs _ n).length ≤ 64; unfold tkX; rw [eachL_len]; omega, by show (tkP _ ps hs r n).length ≤ 64; unfold tkP; rw [goodL_len]; exact mat_len hn hn⟩

end Go.Proofs.Ytijohedhbbddjaa

namespace Go.Proofs.Ytijohedhbbddjaa
open Go.RowKit
set_option maxRecDepth 100000 in
set_option maxHeartbeats 1000000 in
theorem innov_no (w : World) (n xc pr pc hr hc z r : Int) (ax ap ah : Option Addr) (nx cx np cp nh ch : Nat) (hm : mayN n hr hc r ≠ 0) :
    Calls Try.prog 65 #[.agg #[.int .i64 n, .int .i64 xc, .slice ax nx cx, .int .i64 pr, .int .i64 pc, .slice ap np cp], .agg #[.int .i64 hr, .int .i64 hc, .slice ah nh ch], .int .i64 z, .int .i64 r] w fun e w' =>
      e = .returned (.tuple #[.int .i64 0, .int .i64 0, .bool false, .int .i64 (mayN n hr hc r)]) ∧ Below w.heap.size w w' := by
  have hM := fun w => may_any w n xc pr pc hr hc r ax ap ah nx cx np cp nh ch
  obtain ⟨m, hmm⟩ : ∃ m, mayN n hr hc r = m := ⟨_, rfl⟩
  rw [hmm] at hM hm ⊢
  have HM := Lib.hid hM
  clear hM hmm
  have e7 : (m != 0) = true := by simp [hm]
  go_enter Try.func65, Try.ntmps65
  go_wp2_with (go_at_call 109; (refine (HM.out _).mono ?_); rintro e v1 ⟨rfl, hd1⟩)
  refine bodyPost_ret (results_4 rfl _ _) rfl ⟨rfl, below_trans2 (below2 _ _ _) hd1⟩

set_option maxRecDepth 100000 in
set_option maxHeartbeats 2000000 in
theorem innov_any (w : World) (n : Nat) (vx vp vh : Value) (xs ps hs : List Int) (z r : Int) (hr : 0 < r) (ht : TMV w n vx vp xs ps) (hh : MV w 1 n vh hs) :
    Calls Try.prog 65 #[.agg #[.int .i64 n, .int .i64 1, vx, .int .i64 n, .int .i64 n, vp], .agg #[.int .i64 1, .int .i64 n, vh], .int .i64 z, .int .i64 r] w fun e w' =>
      e = .returned (.tuple #[.int .i64 (inY hs xs z n), .int .i64 (inS hs ps r n), .bool (inO hs xs ps z r n), .int .i64 0]) ∧ Below w.heap.size w w' := by
  obtain ⟨ax, cx, rfl, -⟩ := id ht.x.qs
  obtain ⟨ap, cp, rfl, -⟩ := id ht.p.qs
  obtain ⟨ah, ch, rfl, -⟩ := id hh.qs
  have hM := fun w => may_any w n 1 n n 1 n r ax ap ah xs.length cx ps.length cp hs.length ch
  rw [mayN_ok hr] at hM
  have HM := Lib.hid hM
  have hI := fun (w : World) fb b v1 v2 v3 h1 h2 h3 => winnov_any w fb b n v1 v2 v3 xs ps hs z r h1 h2 h3
  obtain ⟨y, hy⟩ : ∃ y, inY hs xs z n = y := ⟨_, rfl⟩
  obtain ⟨sv, hsv⟩ : ∃ y, inS hs ps r n = y := ⟨_, rfl⟩
  obtain ⟨o, ho⟩ : ∃ y, inO hs xs ps z r n = y := ⟨_, rfl⟩
  rw [hy, hsv, ho] at hI
  rw [hy, hsv, ho]
  have HI := Lib.hid hI
  clear hM hI hy hsv ho
  obtain ⟨s, hsz⟩ : ∃ s, w.heap.size = s := ⟨_, rfl⟩
  go_enter Try.func65, Try.ntmps65
  go_upto_region 1 with fail
  obtain ⟨V, hV⟩ : ∃ V, V = (w.alloc (rowT n 1 ax xs.length cx n n ap ps.length cp)).alloc (rowM 1 n ah hs.length ch) := ⟨_, rfl⟩
  have hbV : Below w.heap.size w V := by rw [hV]; exact below2 _ _ _
  have h0 : V.heap[s]? = some (rowT n 1 ax xs.length cx n n ap ps.length cp) := by rw [hV, heap_old _ _ _ (by simp; omega)]; exact heap_at _ _ _ hsz.symm
  have h1 : V.heap[s + 1]? = some (rowM 1 n ah hs.length ch) := by rw [hV]; exact heap_at _ _ _ (by simp; omega)
  unfold rowT rowM at hV
  rw [← hV]
  clear hV
  have c0 := rowT_cell h0
  have c1 := rowM_cell h1
  go_upto_region 4 with (go_at_call 109; (refine (HM.out _).mono ?_); rintro e v1 ⟨rfl, hd1⟩)
  obtain ⟨fb, hfb⟩ : ∃ fb, fb = v1.heap.size := ⟨_, rfl⟩
  clear c0 c1
  go_upto_region 5 with fail
  obtain ⟨V1, hV1⟩ : ∃ V, V = v1.alloc (.cells #[.bool false] 129) := ⟨_, rfl⟩
  have hb1 : Below V.heap.size V V1 := by rw [hV1]; exact below_al hd1 _
  have HW1 : Hid (Wk V1 fb false) := by show _ = _; rw [hV1]; exact heap_at _ _ _ hfb
  rw [← hfb, ← hV1]
  have c0 := rowT_cell (block_later h0 hb1)
  have c1 := rowM_cell (block_later h1 hb1)
  have HT := Lib.hid ((ht.later hbV).later hb1)
  have HH := Lib.hid ((hh.later hbV).later hb1)
  have HB := Lib.hid (below_trans2 hbV hb1)
  have hfs : s ≤ fb := by have := hd1.size; have := lt_of_block h0; omega
  have hfl := HW1.out.lt
  clear hV1 hfb hd1 h0 h1 hbV hb1 ht hh
  go_upto_region 6 with (go_at_call 110; (refine (HI.out _ fb false _ _ _ HW1.out HT.out HH.out).mono ?_); rintro e v2 ⟨rfl, hw2, hb2⟩; have hwc := hw2.cell)
  clear c0 c1
  go_quiet (fail)
  go_wp2_with fail
  refine bodyPost_ret (results_4 rfl _ _) rfl ⟨by simp, ?_⟩
  rw [hsz]
  exact below_drewN' ((by rw [← hsz]; exact HB.out : Below s w V1).trans (hb2.below hfs (by omega))) _


section
variable (w : World) (n : Nat) (vx vp : Value) (xs ps : List Int) (ht : TMV w n vx vp xs ps)
variable (hr hc : Nat) (vh : Value) (hs : List Int) (z r : Int) (hh : MV w hr hc vh hs)
include ht hh
theorem innov_all : Calls Try.prog 65 #[.agg #[.int .i64 n, .int .i64 1, vx, .int .i64 n, .int .i64 n, vp], .agg #[.int .i64 hr, .int .i64 hc, vh], .int .i64 z, .int .i64 r] w (GivesI (innR n hr hc xs ps hs z r) w) := by
  obtain ⟨ax, cx, rfl, -⟩ := id ht.x.qs
  obtain ⟨ap, cp, rfl, -⟩ := id ht.p.qs
  obtain ⟨ah, ch, rfl, -⟩ := id hh.qs
  unfold innR
  split
  · rename_i h
    exact innov_no w n 1 n n hr hc z r ax ap ah xs.length cx ps.length cp hs.length ch h
  · rename_i h
    obtain ⟨rfl, rfl, hr0⟩ := may_parts h
    exact innov_any w hc _ _ _ xs ps hs z r hr0 ht hh
theorem rinnov_all : Calls Try.prog 66 #[.agg #[.int .i64 n, .int .i64 1, vx, .int .i64 n, .int .i64 n, vp], .agg #[.int .i64 hr, .int .i64 hc, vh], .int .i64 z, .int .i64 r] w (GivesI (innR n hr hc xs ps hs z r) w) := by
  obtain ⟨ax, cx, rfl, -⟩ := id ht.x.qs
  obtain ⟨ap, cp, rfl, -⟩ := id ht.p.qs
  obtain ⟨ah, ch, rfl, -⟩ := id hh.qs
  unfold innR
  split
  · rename_i h
    exact rinnov_no w n 1 n n hr hc z r ax ap ah xs.length cx ps.length cp hs.length ch h
  · rename_i h
    obtain ⟨rfl, rfl, hr0⟩ := may_parts h
    exact rinnov_any w hc _ _ _ xs ps hs z r hr0 ht hh
end

end Go.Proofs.Ytijohedhbbddjaa
