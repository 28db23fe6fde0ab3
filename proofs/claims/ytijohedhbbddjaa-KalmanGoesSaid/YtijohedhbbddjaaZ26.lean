/- Texts of this claim, part 27: contracts of the functions that the law reaches. -/
import Derived.Test.YtijohedhbbddjaaZ24
namespace Go.Proofs.Ytijohedhbbddjaa
open Go.RowKit

def tkK (ps hs : List Int) (s : Int) (n : Nat) : List Int := dvL (mulL ps (transL hs 1 n) n n 1) s (mulL ps (transL hs 1 n) n n 1).length
def tkX (ks xs : List Int) (y : Int) (n : Nat) : List Int := eachL addQ xs (scaleL ks y n 1) n 1
def tkI (ks hs : List Int) (n : Nat) : List Int := eachL subQ (eyeL n) (mulL ks hs n 1 n) n n
def tkR (ks : List Int) (r : Int) (n : Nat) : List Int := mulL (scaleL ks r n 1) (transL ks n 1) n 1 n
def tkP (ks ps hs : List Int) (r : Int) (n : Nat) : List Int := goodL (eachL addQ (btwL (tkI ks hs n) ps n n) (tkR ks r n) n n) n
def tkO0 (ps hs : List Int) (s : Int) (n : Nat) : Bool := mulLO ps (transL hs 1 n) n n 1 || dvO (mulL ps (transL hs 1 n) n n 1) s (mulL ps (transL hs 1 n) n n 1).length
def tkO1 (ks xs hs ps : List Int) (y r : Int) (n : Nat) : Bool :=
  ((((((scaleLO ks y n 1 || eachO addO xs (scaleL ks y n 1) n 1) || mulLO ks hs n 1 n) || eachO subO (eyeL n) (mulL ks hs n 1 n) n n) || btwO (tkI ks hs n) ps n n) || scaleLO ks r n 1) || mulLO (scaleL ks r n 1) (transL ks n 1) n 1 n) || eachO addO (btwL (tkI ks hs n) ps n n) (tkR ks r n) n n

theorem But.setTn {fb : Nat} {V w : World} (h : But fb V w) {g : Nat} (hg : V.heap.size ≤ g) (x0 x1 x2 x3 x4 x5 : Value) : But fb V ((((((w.setCell ⟨g, 0, none⟩ x0).setCell ⟨g, 1, none⟩ x1).setCell ⟨g, 2, none⟩ x2).setCell ⟨g, 3, none⟩ x3).setCell ⟨g, 4, none⟩ x4).setCell ⟨g, 5, none⟩ x5) := (((((h.setNew hg 0 x0).setNew hg 1 x1).setNew hg 2 x2).setNew hg 3 x3).setNew hg 4 x4).setNew hg 5 x5
theorem results_t1 {fn : Func} {p : Tmp} (h : fn.results = #[.cell p 71]) (tmps : Array Value) (w : World) (g : Nat) (xr xc : Int) (ax : Option Addr) (nx cx : Nat) (pr pc : Int) (ap : Option Addr) (np cp : Nat) (hp : tmps.getD p undef = .pointer (some ⟨g, 0, none⟩)) (hg : w.heap[g]? = some (rowT xr xc ax nx cx pr pc ap np cp)) :
    (results fn tmps).run Try.prog w = .ok (.agg #[.int .i64 xr, .int .i64 xc, .slice ax nx cx, .int .i64 pr, .int .i64 pc, .slice ap np cp]) w := by
  unfold rowT at hg
  exact results_row h tmps w g _ _ _ _ hp hg Try.underlying71 rfl (by kernel_rfl)

/-- A loop's row: the matrix k, divided up to i. -/
structure DvIn (V0 : World) (fb g n q cap : Nat) (b : Bool) (ks : List Int) (s : Int) (i : Nat) (wr : World) : Prop where
  m : wr.heap[g]? = some (rowM n 1 (some ⟨q, 0, none⟩) ks.length cap)
  own : Own wr V0.heap.size (.slice (some ⟨q, 0, none⟩) ks.length cap) (dvL ks s i)
  wk : Wk wr fb (b || dvO ks s i)
  hk : But fb V0 wr

set_option maxRecDepth 100000 in
set_option maxHeartbeats 8000000 in
theorem taken_any (w : World) (fb : Nat) (b : Bool) (n : Nat) (vx vp vh : Value) (xs ps hs : List Int) (y sv r : Int) (hw : Wk w fb b) (hn1 : 1 ≤ n) (ht : TMV w n vx vp xs ps) (hh : MV w 1 n vh hs) :
    Calls Try.prog 112 #[.pointer (some ⟨fb, 0, none⟩), .agg #[.int .i64 n, .int .i64 1, vx, .int .i64 n, .int .i64 n, vp], .agg #[.int .i64 1, .int .i64 n, vh], .int .i64 y, .int .i64 sv, .int .i64 r] w fun e w' =>
      ∃ ax cx ap cp, e = .returned (.agg #[.int .i64 n, .int .i64 1, .slice ax (tkX (tkK ps hs sv n) xs y n).length cx, .int .i64 n, .int .i64 n, .slice ap (tkP (tkK ps hs sv n) ps hs r n).length cp]) ∧ Own w' 0 (.slice ax (tkX (tkK ps hs sv n) xs y n).length cx) (tkX (tkK ps hs sv n) xs y n) ∧ Own w' 0 (.slice ap (tkP (tkK ps hs sv n) ps hs r n).length cp) (tkP (tkK ps hs sv n) ps hs r n) ∧
        Wk w' fb ((b || tkO0 ps hs sv n) || tkO1 (tkK ps hs sv n) xs hs ps y r n) ∧ But fb w w' := by
  obtain ⟨ax, cx, rfl, -⟩ := id ht.x.qs
  obtain ⟨ap, cp, rfl, -⟩ := id ht.p.qs
  obtain ⟨ah, ch, rfl, -⟩ := id hh.qs
  have hn8 := hh.hc
  unfold tkO0
  have hTh := fun (w : World) v h => trans_row w n v hs h
  obtain ⟨lt, hlt⟩ : ∃ l, transL hs 1 n = l := ⟨_, rfl⟩
  have hMk := fun (w : World) v v' h h' => mmul_col w n n v v' ps lt h h'
  obtain ⟨k0, hk0⟩ : ∃ l, mulL ps lt n n 1 = l := ⟨_, rfl⟩
  obtain ⟨o0, ho0⟩ : ∃ l, mulLO ps lt n n 1 = l := ⟨_, rfl⟩
  have hkd : tkK ps hs sv n = dvL k0 sv k0.length := by unfold tkK; rw [hlt, hk0]
  rw [hlt] at hTh
  rw [hk0, ho0] at hMk
  rw [hkd, hlt, hk0, ho0]
  clear hkd
  obtain ⟨kd, hkd⟩ : ∃ l, dvL k0 sv k0.length = l := ⟨_, rfl⟩
  obtain ⟨od, hod⟩ : ∃ l, dvO k0 sv k0.length = l := ⟨_, rfl⟩
  have HKD := Lib.hid (And.intro hkd hod)
  rw [hkd, hod]
  clear hkd hod
  have hSy := fun (w : World) fb gk gw b ak ck h1 h2 h3 h4 => scaled_any w fb gk gw b n ak ck kd y h1 h2 h3 h4
  have hSr := fun (w : World) fb gk gw b ak ck h1 h2 h3 h4 => scaled_any w fb gk gw b n ak ck kd r h1 h2 h3 h4
  unfold tkX tkO1 tkP tkR
  obtain ⟨sy, hsy⟩ : ∃ l, scaleL kd y n 1 = l := ⟨_, rfl⟩
  obtain ⟨oy, hoy⟩ : ∃ l, scaleLO kd y n 1 = l := ⟨_, rfl⟩
  obtain ⟨sr, hsr⟩ : ∃ l, scaleL kd r n 1 = l := ⟨_, rfl⟩
  obtain ⟨or', hor'⟩ : ∃ l, scaleLO kd r n 1 = l := ⟨_, rfl⟩
  rw [hsy, hoy] at hSy
  rw [hsr, hor'] at hSr
  rw [hsy, hoy, hsr, hor']
  have hAx := fun (w : World) v v' h h' => madd_col w n v v' xs sy h h'
  obtain ⟨lx, hlx⟩ : ∃ l, eachL addQ xs sy n 1 = l := ⟨_, rfl⟩
  obtain ⟨ox, hox⟩ : ∃ l, eachO addO xs sy n 1 = l := ⟨_, rfl⟩
  rw [hlx, hox] at hAx
  rw [hlx, hox]
  have hKh := fun (w : World) v v' h h' => mmul_out w n v v' kd hs h h'
  have hiD : tkI kd hs n = eachL subQ (eyeL n) (mulL kd hs n 1 n) n n := rfl
  obtain ⟨lk, hlk⟩ : ∃ l, mulL kd hs n 1 n = l := ⟨_, rfl⟩
  obtain ⟨ok, hok⟩ : ∃ l, mulLO kd hs n 1 n = l := ⟨_, rfl⟩
  rw [hlk] at hiD
  rw [hlk, hok] at hKh
  rw [hlk, hok]
  have hSi := fun (w : World) v v' h h' => msub_own w n n v v' (eyeL n) lk h h'
  obtain ⟨li, hli⟩ : ∃ l, eachL subQ (eyeL n) lk n n = l := ⟨_, rfl⟩
  obtain ⟨oi, hoi⟩ : ∃ l, eachO subO (eyeL n) lk n n = l := ⟨_, rfl⟩
  rw [hli] at hiD
  rw [hli, hoi] at hSi
  rw [hiD, hoi]
  clear hiD
  have hBt := fun (w : World) fb b v v' h h' h'' => between_any w fb b n n v v' li ps h h' h''
  obtain ⟨lb, hlb⟩ : ∃ l, btwL li ps n n = l := ⟨_, rfl⟩
  obtain ⟨ob, hob⟩ : ∃ l, btwO li ps n n = l := ⟨_, rfl⟩
  rw [hlb, hob] at hBt
  rw [hlb, hob]
  have hTk := fun (w : World) v h => trans_col w n v kd h
  obtain ⟨tk, htk⟩ : ∃ l, transL kd n 1 = l := ⟨_, rfl⟩
  rw [htk] at hTk
  rw [htk]
  have hMr := fun (w : World) v v' h h' => mmul_out w n v v' sr tk h h'
  obtain ⟨lr, hlr⟩ : ∃ l, mulL sr tk n 1 n = l := ⟨_, rfl⟩
  obtain ⟨om, hom⟩ : ∃ l, mulLO sr tk n 1 n = l := ⟨_, rfl⟩
  rw [hlr, hom] at hMr
  rw [hlr, hom]
  have hAp := fun (w : World) v v' h h' => madd_own w n n v v' lb lr h h'
  have hIn := eachAdd_inQ lb lr n n
  obtain ⟨la, hla⟩ : ∃ l, eachL addQ lb lr n n = l := ⟨_, rfl⟩
  obtain ⟨oa, hoa⟩ : ∃ l, eachO addO lb lr n n = l := ⟨_, rfl⟩
  rw [hla, hoa] at hAp
  rw [hla] at hIn
  rw [hla, hoa]
  have hGd := fun (w : World) v h => good_any w n v la h hIn
  obtain ⟨lg, hlg⟩ : ∃ l, goodL la n = l := ⟨_, rfl⟩
  rw [hlg] at hGd
  rw [hlg]
  have HTh := Lib.hid hTh
  have HMk := Lib.hid hMk
  have HSy := Lib.hid hSy
  have HSr := Lib.hid hSr
  have HAx := Lib.hid hAx
  have HKh := Lib.hid hKh
  have HSi := Lib.hid hSi
  have HBt := Lib.hid hBt
  have HTk := Lib.hid hTk
  have HMr := Lib.hid hMr
  have HAp := Lib.hid hAp
  have HGd := Lib.hid hGd
  clear hlt hk0 ho0 hsy hoy hsr hor' hlx hox hlk hok hli hoi hlb hob htk hlr hom hla hoa hlg hTh hMk hSy hSr hAx hKh hSi hBt hTk hMr hAp hGd hIn
  obtain ⟨s, hsz⟩ : ∃ s, w.heap.size = s := ⟨_, rfl⟩
  have hfs := hw.lt
  go_enter Try.func112, Try.ntmps112
  go_upto_region 1 with fail
  obtain ⟨V0, hV0⟩ : ∃ V, V = (((w.alloc (rowP fb)).alloc (rowT n 1 ax xs.length cx n n ap ps.length cp)).alloc (rowM 1 n ah hs.length ch)).alloc (rowT 0 0 none 0 0 0 0 none 0 0) := ⟨_, rfl⟩
  have hbV : Below w.heap.size w V0 := by rw [hV0]; exact below4 _ _ _ _ _
  have h0 : V0.heap[s]? = some (rowP fb) := by rw [hV0, heap_old _ _ _ (by simp; omega), heap_old _ _ _ (by simp; omega), heap_old _ _ _ (by simp; omega)]; exact heap_at _ _ _ hsz.symm
  have h1 : V0.heap[s + 1]? = some (rowT n 1 ax xs.length cx n n ap ps.length cp) := by rw [hV0, heap_old _ _ _ (by simp; omega), heap_old _ _ _ (by simp; omega)]; exact heap_at _ _ _ (by simp; omega)
  have h2 : V0.heap[s + 1 + 1]? = some (rowM 1 n ah hs.length ch) := by rw [hV0, heap_old _ _ _ (by simp; omega)]; exact heap_at _ _ _ (by simp; omega)
  have h3 : V0.heap[s + 1 + 1 + 1]? = some (rowT 0 0 none 0 0 0 0 none 0 0) := by rw [hV0]; exact heap_at _ _ _ (by simp; omega)
  have HT := Lib.hid (ht.later hbV)
  have HH := Lib.hid (hh.later hbV)
  have HW0 := Lib.hid (hw.later hbV)
  have HKW := Lib.hid (But.of_below (fb := fb) hbV)
  unfold rowP rowT rowM at hV0
  rw [← hV0]
  have rP := cells_but (fb := fb) (rowP_cell h0) (show s ≠ fb by omega)
  have rT := rowT_but (f := fb) h1 (by omega)
  have rH := rowM_but (f := fb) h2 (by omega)
  have HP := Lib.hid h0
  have HR := Lib.hid h3
  have HT1 := Lib.hid h1
  have HH1 := Lib.hid h2
  have hzV : s + 1 + 1 + 1 < V0.heap.size := lt_of_block h3
  have hkV := But.refl fb V0
  have hnV : ¬ V0.heap.size = fb := by omega
  have HWd0 : Hid (Wk V0.drew fb b) := HW0.out
  clear hV0 ht hh hw hbV h0 h1 h2 h3
  go_cut [13] (fun s13 wx => ∃ g a c, s13 = .pointer (some ⟨g, 0, none⟩) ∧ wx.heap[g]? = some (rowM n 1 a k0.length c) ∧ MO wx V0.heap.size n 1 (.slice a k0.length c) k0 ∧ Wk wx fb (b || o0) ∧ But fb V0 wx)
  case first =>
    go_region_held3 (fun w' => But fb V0 w') (first | (with_reducible assumption) | (with_reducible exact hkV.drew) | (with_reducible exact (hkV.alloc _).drew) | (with_reducible exact (hkV.drew).alloc _) | (with_reducible exact (But.alloc (by with_reducible assumption) _)) | (with_reducible exact But.set3 (by with_reducible assumption) hkV.size _ _ _) | (with_reducible exact But.set3 (by with_reducible assumption) (But.size (by with_reducible assumption)) _ _ _) | exact But.set3 (by with_reducible assumption) (But.size (fb := fb) (by with_reducible assumption)) _ _ _) (first | (go_at_call 36; first | ((with_reducible refine (HTh.out _ _ (by first | exact HH.out.but HW0.out hkV.drew | exact HH.out.but HW0.out (hkV.alloc _).drew | exact HH.out.but HW0.out (hkV.drew.alloc _))).mono ?_); rintro e w1 ⟨ao1, cap1, rfl, hm1, hd1⟩; have hb1 := But.of_below (fb := fb) hd1; have hw1 : Wk w1 fb b := (by first | exact (HWd0.out).later hd1 | exact ((HWd0.out).later (below1 _ _)).later hd1); have hk1 : But fb V0 w1 := (by first | exact (hkV.drew).trans hb1 | exact ((hkV.drew).alloc _).trans hb1 | exact (hkV).trans hb1 | exact ((hkV).alloc _).trans hb1); obtain ⟨hc1, hf1⟩ := hb1.cells; have hn1 : ¬ w1.heap.size = fb := (by have := hk1.size; omega); (try have hz01 : V0.heap.size < w1.heap.size := (by have := hb1.size; first | omega | (simp at this; omega))))) | (go_at_call 20; first | ((with_reducible refine (HMk.out _ _ _ (by first | exact HT.out.p.but HW0.out hk1 | exact HT.out.p.but HW0.out (hk1.alloc _)) (by first | exact hm1.mv | exact (hm1.mv).later (below1 _ _))).mono ?_); rintro e w2 ⟨ao2, cap2, rfl, hm2, hd2⟩; have hb2 := But.of_below (fb := fb) hd2; have hw2 : Wk w2 fb b := (by first | exact (hw1).later hd2 | exact ((hw1).later (below1 _ _)).later hd2); have hk2 : But fb V0 w2 := (by first | exact (hk1).trans hb2 | exact ((hk1).alloc _).trans hb2 | exact (hk1).trans hb2 | exact ((hk1).alloc _).trans hb2); obtain ⟨hc2, hf2⟩ := hb2.cells; have hn2 : ¬ w2.heap.size = fb := (by have := hk2.size; omega); (try have hz02 : V0.heap.size < w2.heap.size := (by have := hb2.size; first | omega | (simp at this; omega))); (try have hz12 : w1.heap.size < w2.heap.size := (by have := hb2.size; first | omega | (simp at this; omega))))) | (go_at_call 104; first | ((with_reducible refine (wmat_any _ fb b o0 n 1 0 ao2 k0.length cap2 (by first | exact hw2 | exact (hw2).later (below1 _ _))).mono ?_); rintro e w3 ⟨rfl, hw3, hb3⟩; have hk3 : But fb V0 w3 := (by first | exact (hk2).trans hb3 | exact ((hk2).alloc _).trans hb3 | exact (hk2).trans hb3 | exact ((hk2).alloc _).trans hb3); obtain ⟨hc3, hf3⟩ := hb3.cells; have hn3 : ¬ w3.heap.size = fb := (by have := hk3.size; omega); (try have hz03 : V0.heap.size < w3.heap.size := (by have := hb3.size; first | omega | (simp at this; omega))); (try have hz13 : w1.heap.size < w3.heap.size := (by have := hb3.size; first | omega | (simp at this; omega))); (try have hz23 : w2.heap.size < w3.heap.size := (by have := hb3.size; first | omega | (simp at this; omega))); have hm3 := (by first | exact hm2.but (hw2) hb3 | exact (hm2.later (below1 _ _)).but ((hw2).later (below1 _ _)) hb3))))
    all_goals go_wp2_with fail
    all_goals go_meet
    · exact ⟨_, ao2, cap2, rfl, heap_at _ _ _ rfl, (hm3.later (below1 _ _)).low (by have := hk1.size; omega), hw3.later (below1 _ _), hk3.alloc _⟩
    · have hR := (hb3.row (heap_at w2 (rowM 0 0 none 0 0) _ rfl) (by omega))
      exact ⟨_, ao2, cap2, rfl, storeM hR _ _ _ _ _, (hm3.set3 hR _ _ _).low (by have := hk1.size; first | omega | (simp; omega)), hw3.set3 hR _ _ _, hk3.set3 hk2.size _ _ _⟩
    · have hR := (hb3.row (hb2.row (heap_at w1 (rowM 0 0 none 0 0) _ rfl) (by omega)) (by omega))
      exact ⟨_, ao2, cap2, rfl, storeM hR _ _ _ _ _, (hm3.set3 hR _ _ _).low (by have := hk1.size; first | omega | (simp; omega)), hw3.set3 hR _ _ _, hk3.set3 hk1.size _ _ _⟩
    · have hR := (hb3.row (hb2.row (hb1.row (heap_at V0 (rowM 0 0 none 0 0) _ rfl) (by omega)) (by omega)) (by omega))
      exact ⟨_, ao2, cap2, rfl, storeM hR _ _ _ _ _, (hm3.set3 hR _ _ _).low (by have := hk1.size; first | omega | (simp; omega)), hw3.set3 hR _ _ _, hk3.set3 hkV.size _ _ _⟩
  case rest =>
    obtain ⟨g13, a13, c13, rfl, h13, hm13, hw13, hk13⟩ := hcut
    have hlen := hm13.len
    obtain ⟨q, rfl, hqV, ⟨cq, hcq⟩, -, -, -⟩ := hm13.own.at (i := 0) (by rw [hlen]; omega)
    have hg13 : ∀ (g : Nat) (o : Obj), V0.heap[g]? = some o → g ≠ fb → wc.heap[g]? = some o := fun g o h hn => hk13.row h hn
    have hgf : g13 ≠ fb := fun he => by subst he; unfold Wk at hw13; rw [hw13] at h13; simp [rowM] at h13
    have hgq : g13 ≠ q := fun he => by subst he; rw [hcq] at h13; simp [rowM] at h13
    have hD0 : Hid (DvIn V0 fb g13 n q c13 (b || o0) k0 sv 0 wc) := (show DvIn _ _ _ _ _ _ _ _ _ _ _ from ⟨h13, by rw [dvL_zero]; exact hm13.own, by rw [show dvO k0 sv 0 = false from rfl, Bool.or_false]; exact hw13, hk13⟩)
    have r13 := rowM_cell h13
    have hk8 : (k0.length : Int) ≤ 8 := by rw [hlen]; omega
    have HLen := Lib.hid hlen
    clear hm13 hw13 hcq hg13 hlen
    go_upto_region 3 with fail
    clear h13 hk13 r13
    go_wp2_with fail
    go_loopg [35] k0.length (fun k iv wr => ∃ i : Nat, i ≤ k0.length ∧ k = k0.length - i ∧ iv = .int .i64 i ∧ DvIn V0 fb g13 n q c13 (b || o0) k0 sv i wr)
    case atStart => exact ⟨0, by omega, by omega, rfl, hD0.out⟩
    case round =>
      clear hD0
      obtain ⟨i, hi, rfl, rfl, hD⟩ := hrel
      have HD := Lib.hid hD
      clear hD
      by_cases hlt : i < k0.length
      · have hil : (i : Int) < (k0.length : Int) := by omega
        obtain ⟨q', hq', hqb, ⟨cs, hcs⟩, hci, hfi, -⟩ := HD.out.own.at (i := i) (by rw [dvL_len]; exact hlt)
        injection hq' with hq'
        injection hq' with hq'
        subst hq'
        rw [dvL_at k0 sv hlt] at hci
        obtain ⟨x, hx⟩ : ∃ x, k0.getD i 0 = x := ⟨_, rfl⟩
        rw [hx] at hci
        have hst := dvL_step k0 sv hlt
        have hso := dvO_succ k0 sv i
        rw [hx] at hst hso
        obtain ⟨z, hz⟩ : ∃ z, divQ x sv = z := ⟨_, rfl⟩
        obtain ⟨zo, hzo⟩ : ∃ z, divO x sv = z := ⟨_, rfl⟩
        rw [hz] at hst
        rw [hzo] at hso
        have HZ := Lib.hid (And.intro hz hzo)
        have HST := Lib.hid (And.intro hst hso)
        have r13 := rowM_but2 (f := fb) (o := q) HD.out.m hgf hgq
        have hqf : q ≠ fb := by have := lt_of_block HP.out; omega
        have rP' := cells_but2 (f := fb) (o := q) (rP wr HD.out.hk) (show s ≠ fb by omega) (show s ≠ q by omega)
        have HWd : Hid (Wk wr.drew fb ((b || o0) || dvO k0 sv i)) := HD.out.wk
        clear hst hso hz hzo hx
        go_wp2_with fail
        clear hci hfi
        first | (go_region_held3 (fun w' => But2 fb q wr w') (first | (with_reducible assumption) | (with_reducible exact But2.of (but_drew _ _)) | (with_reducible exact But2.of (by with_reducible assumption)) | (with_reducible exact (But2.of hk2).set _ _)) (first | (go_at_call 41; refine (div_any x sv _).mono ?_; rw [HZ.out.1, HZ.out.2]; rintro e w1 ⟨rfl, hd1⟩; have hk1 : But fb wr w1 := (but_drew _ _).trans (But.of_below hd1); have hw1 := HWd.out.later hd1) | (go_at_call 111; refine (wone_any _ fb ((b || o0) || dvO k0 sv i) zo z hw1).mono ?_; rintro e w2 ⟨rfl, hw2, hb2⟩; have hk2 : But fb wr w2 := hk1.trans hb2; obtain ⟨q2, hq2, hqb2, ⟨cs2, hcs2⟩, hci2, hfi2, hset2⟩ := (HD.out.own.but HD.out.wk hk2).at (i := i) (by rw [dvL_len]; exact hlt); (injection hq2 with hq2); (injection hq2 with hq2); subst hq2; have HSet := Lib.hid hset2; clear hset2))) | fail
        go_wp2_with fail
        go_roundg (k0.length - (i + 1))
        case measure => omega
        case rel =>
          refine ⟨i + 1, by omega, rfl, by go_num, ⟨rowM_setQ (hk2.row HD.out.m hgf) hcs2 _ _, ?_, ?_, (HD.out.hk.trans hk2).setNew hqb2 _ _⟩⟩
          · have h := HSet.out z
            rw [HST.out.1] at h
            exact h
          · have h := hw2.setQ hcs2 i (.int .i64 z)
            rw [HST.out.2]
            simpa [Bool.or_assoc] using h
      · have hie : i = k0.length := by omega
        subst hie
        have hmk := HD.out.m
        have how := HD.out.own
        have hwk := HD.out.wk
        have hkk := HD.out.hk
        rw [HKD.out.1] at how
        rw [HKD.out.2] at hwk
        have hkl : kd.length = k0.length := by rw [← HKD.out.1, dvL_len]
        rw [← hkl] at hmk how
        have HKM : Hid (wr.heap[g13]? = some (rowM n 1 (some ⟨q, 0, none⟩) kd.length c13)) := hmk
        have HMK : Hid (MO wr V0.heap.size n 1 (.slice (some ⟨q, 0, none⟩) kd.length c13) kd) := (show MO _ _ _ _ _ _ from ⟨how, by rw [hkl, HLen.out], hn8, by omega⟩)
        have HWK := Lib.hid hwk
        have HKK := Lib.hid hkk
        clear hmk how hwk hkk HD hkl hlt
        go_wp2_with fail
        have BP_1 := Lib.hid (HKK.out.row HP.out (show s ≠ fb by omega))
        have BT_1 := Lib.hid (HKK.out.row HT1.out (show s + 1 ≠ fb by omega))
        have BH_1 := Lib.hid (HKK.out.row HH1.out (show s + 1 + 1 ≠ fb by omega))
        have BR_1 := Lib.hid (HKK.out.row HR.out (show s + 1 + 1 + 1 ≠ fb by omega))
        have BK_1 := HKM
        have M_1 := HMK
        have W_1 := HWK
        have X_1 := Lib.hid (HT.out.x.but HW0.out HKK.out)
        have Pp_1 := Lib.hid (HT.out.p.but HW0.out HKK.out)
        have Hh_1 := Lib.hid (HH.out.but HW0.out HKK.out)
        have K0 := Lib.hid (HKW.out.trans HKK.out)
        clear HKM HMK HWK HKK
        have yP := cells_but (fb := fb) (rowP_cell BP_1.out) (show s ≠ fb by omega)
        have yT := rowT_but (f := fb) BT_1.out (show s + 1 ≠ fb by omega)
        have yH := rowM_but (f := fb) BH_1.out (show s + 1 + 1 ≠ fb by omega)
        have yK := rowM_but (f := fb) BK_1.out hgf
        have HWd : Hid (Wk wr.drew fb ((b || o0) || od)) := W_1.out
        have BKd : Hid (wr.drew.heap[g13]? = some (rowM n 1 (some ⟨q, 0, none⟩) kd.length c13)) := BK_1.out
        have BPd : Hid (wr.drew.heap[s]? = some (rowP fb)) := BP_1.out
        have MKd : Hid (MV wr.drew n 1 (.slice (some ⟨q, 0, none⟩) kd.length c13) kd) := M_1.out.mv.later (below_drew _)
        have hlP : fb < wr.heap.size := W_1.out.lt
        have hnP : ¬ wr.heap.size = fb := by omega
        go_cut [17] (fun s17 wx => ∃ g a c, s17 = .pointer (some ⟨g, 0, none⟩) ∧ wx.heap[g]? = some (rowM n 1 a lx.length c) ∧ MO wx 0 n 1 (.slice a lx.length c) lx ∧ Wk wx fb ((((b || o0) || od) || oy) || ox) ∧ But fb wr wx)
        case first =>
          go_region_held3 (fun w' => But fb wr w') (first | (with_reducible assumption) | (with_reducible exact but_drew _ _) | (with_reducible exact ((But.refl _ _).alloc _).drew) | (with_reducible exact (But.alloc (by with_reducible assumption) _)) | (with_reducible exact (but_drew _ _).alloc _) | (with_reducible exact But.set3 (by with_reducible assumption) (Nat.le_refl _) _ _ _) | (with_reducible exact But.set3 (by with_reducible assumption) (But.size (by with_reducible assumption)) _ _ _) | exact But.set3 (by with_reducible assumption) (But.size (fb := fb) (by with_reducible assumption)) _ _ _) (first | (go_at_call 120; first | ((with_reducible refine (HSy.out _ fb g13 s ((b || o0) || od) _ _ (by first | exact HWd.out | exact (HWd.out).later (below1 _ _)) (by first | exact BKd.out | exact block_later BKd.out (below1 _ _)) (by first | exact MKd.out | exact (MKd.out).later (below1 _ _)) (by first | exact BPd.out | exact block_later BPd.out (below1 _ _))).mono ?_); rintro e w1 ⟨ao1, cap1, rfl, hm1, hw1, hb1⟩; have hk1 : But fb wr w1 := (by first | exact (but_drew _ _).trans hb1 | exact ((but_drew _ _).alloc _).trans hb1 | exact hb1 | exact ((But.refl _ _).alloc _).trans hb1); obtain ⟨hc1, hf1⟩ := hb1.cells; have hn1 : ¬ w1.heap.size = fb := (by have := hk1.size; omega); (try have hz01 : wr.heap.size < w1.heap.size := (by have := hb1.size; first | omega | (simp at this; omega))))) | (go_at_call 16; first | ((with_reducible refine (HAx.out _ _ _ (by first | exact (X_1.out.but W_1.out hk1) | exact ((X_1.out.but W_1.out hk1)).later (below1 _ _)) (by first | exact hm1.mv | exact (hm1.mv).later (below1 _ _))).mono ?_); rintro e w2 ⟨ao2, cap2, rfl, hm2, hd2⟩; have hb2 := But.of_below (fb := fb) hd2; have hw2 : Wk w2 fb (((b || o0) || od) || oy) := (by first | exact (hw1).later hd2 | exact ((hw1).later (below1 _ _)).later hd2); have hk2 : But fb wr w2 := (by first | exact hk1.trans hb2 | exact (hk1.alloc _).trans hb2); obtain ⟨hc2, hf2⟩ := hb2.cells; have hn2 : ¬ w2.heap.size = fb := (by have := hk2.size; omega); (try have hz02 : wr.heap.size < w2.heap.size := (by have := hb2.size; first | omega | (simp at this; omega))); (try have hz12 : w1.heap.size < w2.heap.size := (by have := hb2.size; first | omega | (simp at this; omega))))) | (go_at_call 104; first | ((with_reducible refine (wmat_any _ fb (((b || o0) || od) || oy) ox n 1 0 ao2 lx.length cap2 (by first | exact hw2 | exact (hw2).later (below1 _ _))).mono ?_); rintro e w3 ⟨rfl, hw3, hb3⟩; have hk3 : But fb wr w3 := (by first | exact hk2.trans hb3 | exact (hk2.alloc _).trans hb3); obtain ⟨hc3, hf3⟩ := hb3.cells; have hn3 : ¬ w3.heap.size = fb := (by have := hk3.size; omega); (try have hz03 : wr.heap.size < w3.heap.size := (by have := hb3.size; first | omega | (simp at this; omega))); (try have hz13 : w1.heap.size < w3.heap.size := (by have := hb3.size; first | omega | (simp at this; omega))); (try have hz23 : w2.heap.size < w3.heap.size := (by have := hb3.size; first | omega | (simp at this; omega))); have hm3 := (by first | exact hm2.but (hw2) hb3 | exact (hm2.later (below1 _ _)).but ((hw2).later (below1 _ _)) hb3))))
          all_goals go_wp2_with fail
          all_goals go_meet
          · exact ⟨_, ao2, cap2, rfl, heap_at _ _ _ rfl, (hm3.later (below1 _ _)).low (Nat.zero_le _), hw3.later (below1 _ _), hk3.alloc _⟩
          · have hR := (hb3.row (heap_at w2 (rowM 0 0 none 0 0) _ rfl) (by omega))
            exact ⟨_, ao2, cap2, rfl, storeM hR _ _ _ _ _, (hm3.set3 hR _ _ _).low (Nat.zero_le _), hw3.set3 hR _ _ _, hk3.set3 hk2.size _ _ _⟩
          · have hR := (hb3.row (hb2.row (heap_at w1 (rowM 0 0 none 0 0) _ rfl) (by omega)) (by omega))
            exact ⟨_, ao2, cap2, rfl, storeM hR _ _ _ _ _, (hm3.set3 hR _ _ _).low (Nat.zero_le _), hw3.set3 hR _ _ _, hk3.set3 hk1.size _ _ _⟩
          · have hR := (hb3.row (hb2.row (hb1.row (heap_at wr (rowM 0 0 none 0 0) _ rfl) (by omega)) (by omega)) (by omega))
            exact ⟨_, ao2, cap2, rfl, storeM hR _ _ _ _ _, (hm3.set3 hR _ _ _).low (Nat.zero_le _), hw3.set3 hR _ _ _, hk3.set3 (Nat.le_refl _) _ _ _⟩
        case rest =>
          clear yP yT yH yK HWd BKd BPd MKd hlP hnP
          obtain ⟨g17, a17, c17, rfl, h17, hm17, hw17, hk17⟩ := hcut
          have BP_2 := Lib.hid (hk17.row BP_1.out (show s ≠ fb by omega))
          have BT_2 := Lib.hid (hk17.row BT_1.out (show s + 1 ≠ fb by omega))
          have BH_2 := Lib.hid (hk17.row BH_1.out (show s + 1 + 1 ≠ fb by omega))
          have BR_2 := Lib.hid (hk17.row BR_1.out (show s + 1 + 1 + 1 ≠ fb by omega))
          have BK_2 := Lib.hid (hk17.row BK_1.out hgf)
          have M_2 := Lib.hid (M_1.out.but W_1.out hk17)
          have X_2 := Lib.hid (X_1.out.but W_1.out hk17)
          have Pp_2 := Lib.hid (Pp_1.out.but W_1.out hk17)
          have Hh_2 := Lib.hid (Hh_1.out.but W_1.out hk17)
          have W_2 := Lib.hid hw17
          have L_2 := Lib.hid hm17
          have B17_2 := Lib.hid h17
          have K1 := Lib.hid (K0.out.trans hk17)
          have hg17 : g17 ≠ fb := fun he => by subst he; unfold Wk at hw17; rw [hw17] at h17; simp [rowM] at h17
          clear hm17 hw17 hk17 h17
          have yP := cells_but (fb := fb) (rowP_cell BP_2.out) (show s ≠ fb by omega)
          have yT := rowT_but (f := fb) BT_2.out (show s + 1 ≠ fb by omega)
          have yH := rowM_but (f := fb) BH_2.out (show s + 1 + 1 ≠ fb by omega)
          have yK := rowM_but (f := fb) BK_2.out hgf
          have y17 := rowM_but (f := fb) B17_2.out hg17
          have hkR := But.refl fb wc
          go_upto_region 10 with (go_at_call 28; (refine (eye_own _ n hn1 hn8).mono ?_); rintro e w1 ⟨ae, ce, rfl, hme, hde⟩)
          obtain ⟨g18, hg18⟩ : ∃ g, g = w1.heap.size := ⟨_, rfl⟩
          obtain ⟨V4, hV4⟩ : ∃ V, V = w1.alloc (rowM n n ae (eyeL n).length ce) := ⟨_, rfl⟩
          have hb4 : Below wc.heap.size wc V4 := by rw [hV4]; exact below_al hde _
          have hk4 : But fb wc V4 := But.of_below hb4
          have B18_3 : Hid (V4.heap[g18]? = some (rowM n n ae (eyeL n).length ce)) := by show _ = _; rw [hV4]; exact heap_at _ _ _ hg18
          have E_3 : Hid (MO V4 wc.heap.size n n (.slice ae (eyeL n).length ce) (eyeL n)) := by rw [hV4]; exact hme.later (below1 _ _)
          have hg18f : g18 ≠ fb := by have := W_2.out.lt; have := hde.size; omega
          rw [← hg18]
          unfold rowM at hV4
          rw [← hV4]
          clear hV4 hg18 hme hde hkR
          clear yP yT yH yK y17
          have BP_3 := Lib.hid (hk4.row BP_2.out (show s ≠ fb by omega))
          have BT_3 := Lib.hid (hk4.row BT_2.out (show s + 1 ≠ fb by omega))
          have BH_3 := Lib.hid (hk4.row BH_2.out (show s + 1 + 1 ≠ fb by omega))
          have BR_3 := Lib.hid (hk4.row BR_2.out (show s + 1 + 1 + 1 ≠ fb by omega))
          have BK_3 := Lib.hid (hk4.row BK_2.out hgf)
          have B17_3 := Lib.hid (hk4.row B17_2.out hg17)
          have M_3 := Lib.hid (M_2.out.but W_2.out hk4)
          have X_3 := Lib.hid (X_2.out.but W_2.out hk4)
          have Pp_3 := Lib.hid (Pp_2.out.but W_2.out hk4)
          have Hh_3 := Lib.hid (Hh_2.out.but W_2.out hk4)
          have L_3 := Lib.hid (L_2.out.but W_2.out hk4)
          have W_3 := Lib.hid (W_2.out.later hb4)
          have K2 := Lib.hid (K1.out.trans hk4)
          clear hb4 hk4
          have yP := cells_but (fb := fb) (rowP_cell BP_3.out) (show s ≠ fb by omega)
          have yT := rowT_but (f := fb) BT_3.out (show s + 1 ≠ fb by omega)
          have yH := rowM_but (f := fb) BH_3.out (show s + 1 + 1 ≠ fb by omega)
          have yK := rowM_but (f := fb) BK_3.out hgf
          have y17 := rowM_but (f := fb) B17_3.out hg17
          have y18 := rowM_but (f := fb) B18_3.out hg18f
          have HWd : Hid (Wk V4.drew fb ((((b || o0) || od) || oy) || ox)) := W_3.out
          have MKd : Hid (MV V4.drew n 1 (.slice (some ⟨q, 0, none⟩) kd.length c13) kd) := M_3.out.mv.later (below_drew _)
          have HHd : Hid (MV V4.drew 1 n (.slice ah hs.length ch) hs) := Hh_3.out.later (below_drew _)
          have hlP : fb < V4.heap.size := W_3.out.lt
          have hnP : ¬ V4.heap.size = fb := by omega
          go_cut [20] (fun s20 wx => ∃ g a c, s20 = .pointer (some ⟨g, 0, none⟩) ∧ wx.heap[g]? = some (rowM n n a li.length c) ∧ MO wx 0 n n (.slice a li.length c) li ∧ Wk wx fb ((((((b || o0) || od) || oy) || ox) || ok) || oi) ∧ But fb V4 wx)
          case first =>
            go_region_held3 (fun w' => But fb V4 w') (first | (with_reducible assumption) | (with_reducible exact but_drew _ _) | (with_reducible exact ((But.refl _ _).alloc _).drew) | (with_reducible exact (But.alloc (by with_reducible assumption) _)) | (with_reducible exact (but_drew _ _).alloc _) | (with_reducible exact But.set3 (by with_reducible assumption) (Nat.le_refl _) _ _ _) | (with_reducible exact But.set3 (by with_reducible assumption) (But.size (by with_reducible assumption)) _ _ _) | exact But.set3 (by with_reducible assumption) (But.size (fb := fb) (by with_reducible assumption)) _ _ _) (first | (go_at_call 20; first | ((with_reducible refine (HKh.out _ _ _ (by first | exact MKd.out | exact (MKd.out).later (below1 _ _)) (by first | exact HHd.out | exact (HHd.out).later (below1 _ _))).mono ?_); rintro e w1 ⟨ao1, cap1, rfl, hm1, hd1⟩; have hb1 := But.of_below (fb := fb) hd1; have hw1 : Wk w1 fb ((((b || o0) || od) || oy) || ox) := (by first | exact (HWd.out).later hd1 | exact ((HWd.out).later (below1 _ _)).later hd1); have hk1 : But fb V4 w1 := (by first | exact (but_drew _ _).trans hb1 | exact ((but_drew _ _).alloc _).trans hb1 | exact hb1 | exact ((But.refl _ _).alloc _).trans hb1); obtain ⟨hc1, hf1⟩ := hb1.cells; have hn1 : ¬ w1.heap.size = fb := (by have := hk1.size; omega); (try have hz01 : V4.heap.size < w1.heap.size := (by have := hb1.size; first | omega | (simp at this; omega))))) | (go_at_call 104; first | ((with_reducible refine (wmat_any _ fb ((((b || o0) || od) || oy) || ox) ok n n 0 ao1 lk.length cap1 (by first | exact hw1 | exact (hw1).later (below1 _ _))).mono ?_); rintro e w2 ⟨rfl, hw2, hb2⟩; have hk2 : But fb V4 w2 := (by first | exact hk1.trans hb2 | exact (hk1.alloc _).trans hb2); obtain ⟨hc2, hf2⟩ := hb2.cells; have hn2 : ¬ w2.heap.size = fb := (by have := hk2.size; omega); (try have hz02 : V4.heap.size < w2.heap.size := (by have := hb2.size; first | omega | (simp at this; omega))); (try have hz12 : w1.heap.size < w2.heap.size := (by have := hb2.size; first | omega | (simp at this; omega))); have hm2 := (by first | exact hm1.but (hw1) hb2 | exact (hm1.later (below1 _ _)).but ((hw1).later (below1 _ _)) hb2)) | ((with_reducible refine (wmat_any _ fb (((((b || o0) || od) || oy) || ox) || ok) oi n n 0 ao3 li.length cap3 (by first | exact hw3 | exact (hw3).later (below1 _ _))).mono ?_); rintro e w4 ⟨rfl, hw4, hb4⟩; have hk4 : But fb V4 w4 := (by first | exact hk3.trans hb4 | exact (hk3.alloc _).trans hb4); obtain ⟨hc4, hf4⟩ := hb4.cells; have hn4 : ¬ w4.heap.size = fb := (by have := hk4.size; omega); (try have hz04 : V4.heap.size < w4.heap.size := (by have := hb4.size; first | omega | (simp at this; omega))); (try have hz14 : w1.heap.size < w4.heap.size := (by have := hb4.size; first | omega | (simp at this; omega))); (try have hz24 : w2.heap.size < w4.heap.size := (by have := hb4.size; first | omega | (simp at this; omega))); (try have hz34 : w3.heap.size < w4.heap.size := (by have := hb4.size; first | omega | (simp at this; omega))); have hm4 := (by first | exact hm3.but (hw3) hb4 | exact (hm3.later (below1 _ _)).but ((hw3).later (below1 _ _)) hb4))) | (go_at_call 18; first | ((with_reducible refine (HSi.out _ _ _ (by first | exact (E_3.out.but W_3.out hk2).mv | exact ((E_3.out.but W_3.out hk2).mv).later (below1 _ _)) (by first | exact hm2.mv | exact (hm2.mv).later (below1 _ _))).mono ?_); rintro e w3 ⟨ao3, cap3, rfl, hm3, hd3⟩; have hb3 := But.of_below (fb := fb) hd3; have hw3 : Wk w3 fb (((((b || o0) || od) || oy) || ox) || ok) := (by first | exact (hw2).later hd3 | exact ((hw2).later (below1 _ _)).later hd3); have hk3 : But fb V4 w3 := (by first | exact hk2.trans hb3 | exact (hk2.alloc _).trans hb3); obtain ⟨hc3, hf3⟩ := hb3.cells; have hn3 : ¬ w3.heap.size = fb := (by have := hk3.size; omega); (try have hz03 : V4.heap.size < w3.heap.size := (by have := hb3.size; first | omega | (simp at this; omega))); (try have hz13 : w1.heap.size < w3.heap.size := (by have := hb3.size; first | omega | (simp at this; omega))); (try have hz23 : w2.heap.size < w3.heap.size := (by have := hb3.size; first | omega | (simp at this; omega))))))
            all_goals go_wp2_with fail
            all_goals go_meet
            · exact ⟨_, ao3, cap3, rfl, heap_at _ _ _ rfl, (hm4.later (below1 _ _)).low (Nat.zero_le _), hw4.later (below1 _ _), hk4.alloc _⟩
            · have hR := (hb4.row (heap_at w3 (rowM 0 0 none 0 0) _ rfl) (by omega))
              exact ⟨_, ao3, cap3, rfl, storeM hR _ _ _ _ _, (hm4.set3 hR _ _ _).low (Nat.zero_le _), hw4.set3 hR _ _ _, hk4.set3 hk3.size _ _ _⟩
            · have hR := (hb4.row (hb3.row (heap_at w2 (rowM 0 0 none 0 0) _ rfl) (by omega)) (by omega))
              exact ⟨_, ao3, cap3, rfl, storeM hR _ _ _ _ _, (hm4.set3 hR _ _ _).low (Nat.zero_le _), hw4.set3 hR _ _ _, hk4.set3 hk2.size _ _ _⟩
            · have hR := (hb4.row (hb3.row (hb2.row (heap_at w1 (rowM 0 0 none 0 0) _ rfl) (by omega)) (by omega)) (by omega))
              exact ⟨_, ao3, cap3, rfl, storeM hR _ _ _ _ _, (hm4.set3 hR _ _ _).low (Nat.zero_le _), hw4.set3 hR _ _ _, hk4.set3 hk1.size _ _ _⟩
            · have hR := (hb4.row (hb3.row (hb2.row (hb1.row (heap_at V4 (rowM 0 0 none 0 0) _ rfl) (by omega)) (by omega)) (by omega)) (by omega))
              exact ⟨_, ao3, cap3, rfl, storeM hR _ _ _ _ _, (hm4.set3 hR _ _ _).low (Nat.zero_le _), hw4.set3 hR _ _ _, hk4.set3 (Nat.le_refl _) _ _ _⟩
          case rest =>
            clear yP yT yH yK y17 y18 HWd MKd HHd hlP hnP
            obtain ⟨g20, a20, c20, rfl, h20, hm20, hw20, hk20⟩ := hcut
            have BP_4 := Lib.hid (hk20.row BP_3.out (show s ≠ fb by omega))
            have BT_4 := Lib.hid (hk20.row BT_3.out (show s + 1 ≠ fb by omega))
            have BH_4 := Lib.hid (hk20.row BH_3.out (show s + 1 + 1 ≠ fb by omega))
            have BR_4 := Lib.hid (hk20.row BR_3.out (show s + 1 + 1 + 1 ≠ fb by omega))
            have BK_4 := Lib.hid (hk20.row BK_3.out hgf)
            have B17_4 := Lib.hid (hk20.row B17_3.out hg17)
            have B18_4 := Lib.hid (hk20.row B18_3.out hg18f)
            have M_4 := Lib.hid (M_3.out.but W_3.out hk20)
            have X_4 := Lib.hid (X_3.out.but W_3.out hk20)
            have Pp_4 := Lib.hid (Pp_3.out.but W_3.out hk20)
            have Hh_4 := Lib.hid (Hh_3.out.but W_3.out hk20)
            have L_4 := Lib.hid (L_3.out.but W_3.out hk20)
            have W_4 := Lib.hid hw20
            have I_4 := Lib.hid hm20
            have K3 := Lib.hid (K2.out.trans hk20)
            have hg20 : g20 ≠ fb := fun he => by subst he; unfold Wk at hw20; rw [hw20] at h20; simp [rowM] at h20
            have B20_4 := Lib.hid h20
            clear hm20 hw20 hk20 h20
            have yP := cells_but (fb := fb) (rowP_cell BP_4.out) (show s ≠ fb by omega)
            have yT := rowT_but (f := fb) BT_4.out (show s + 1 ≠ fb by omega)
            have yH := rowM_but (f := fb) BH_4.out (show s + 1 + 1 ≠ fb by omega)
            have yK := rowM_but (f := fb) BK_4.out hgf
            have y17 := rowM_but (f := fb) B17_4.out hg17
            have y18 := rowM_but (f := fb) B18_4.out hg18f
            have y20 := rowM_but (f := fb) B20_4.out hg20
            have hkR := But.refl fb wc
            go_upto_region 12 with (go_at_call 105; (refine (HBt.out _ fb ((((((b || o0) || od) || oy) || ox) || ok) || oi) _ _ W_4.out I_4.out.mv Pp_4.out).mono ?_); rintro e w1 ⟨a21, c21, rfl, hm21, hw21, hb21⟩)
            obtain ⟨g21, hg21⟩ : ∃ g, g = w1.heap.size := ⟨_, rfl⟩
            obtain ⟨V5, hV5⟩ : ∃ V, V = w1.alloc (rowM n n a21 lb.length c21) := ⟨_, rfl⟩
            have hk5 : But fb wc V5 := by rw [hV5]; exact hb21.alloc _
            have B21_5 : Hid (V5.heap[g21]? = some (rowM n n a21 lb.length c21)) := by show _ = _; rw [hV5]; exact heap_at _ _ _ hg21
            have D_5 : Hid (MO V5 0 n n (.slice a21 lb.length c21) lb) := by rw [hV5]; exact (hm21.later (below1 _ _)).low (Nat.zero_le _)
            have W_5 : Hid (Wk V5 fb (((((((b || o0) || od) || oy) || ox) || ok) || oi) || ob)) := by rw [hV5]; exact hw21.later (below1 _ _)
            have hg21f : g21 ≠ fb := by have := W_4.out.lt; have := hb21.size; omega
            have hg21l : wc.heap.size ≤ g21 := by have := hb21.size; omega
            rw [← hg21]
            unfold rowM at hV5
            rw [← hV5]
            clear hV5 hg21 hm21 hw21 hb21 hkR
            clear yP yT yH yK y17 y18 y20
            have BP_5 := Lib.hid (hk5.row BP_4.out (show s ≠ fb by omega))
            have BT_5 := Lib.hid (hk5.row BT_4.out (show s + 1 ≠ fb by omega))
            have BH_5 := Lib.hid (hk5.row BH_4.out (show s + 1 + 1 ≠ fb by omega))
            have BR_5 := Lib.hid (hk5.row BR_4.out (show s + 1 + 1 + 1 ≠ fb by omega))
            have BK_5 := Lib.hid (hk5.row BK_4.out hgf)
            have B17_5 := Lib.hid (hk5.row B17_4.out hg17)
            have B18_5 := Lib.hid (hk5.row B18_4.out hg18f)
            have B20_5 := Lib.hid (hk5.row B20_4.out hg20)
            have M_5 := Lib.hid (M_4.out.but W_4.out hk5)
            have L_5 := Lib.hid (L_4.out.but W_4.out hk5)
            have K4 := Lib.hid (K3.out.trans hk5)
            have hl17 := Lib.hid (lt_of_block B17_4.out)
            have hlR := Lib.hid (lt_of_block BR_4.out)
            clear hk5
            have yP := cells_but (fb := fb) (rowP_cell BP_5.out) (show s ≠ fb by omega)
            have yT := rowT_but (f := fb) BT_5.out (show s + 1 ≠ fb by omega)
            have yH := rowM_but (f := fb) BH_5.out (show s + 1 + 1 ≠ fb by omega)
            have yK := rowM_but (f := fb) BK_5.out hgf
            have y17 := rowM_but (f := fb) B17_5.out hg17
            have y18 := rowM_but (f := fb) B18_5.out hg18f
            have y20 := rowM_but (f := fb) B20_5.out hg20
            have y21 := rowM_but (f := fb) B21_5.out hg21f
            have HWd : Hid (Wk V5.drew fb (((((((b || o0) || od) || oy) || ox) || ok) || oi) || ob)) := W_5.out
            have BKd : Hid (V5.drew.heap[g13]? = some (rowM n 1 (some ⟨q, 0, none⟩) kd.length c13)) := BK_5.out
            have BPd : Hid (V5.drew.heap[s]? = some (rowP fb)) := BP_5.out
            have MKd : Hid (MV V5.drew n 1 (.slice (some ⟨q, 0, none⟩) kd.length c13) kd) := M_5.out.mv.later (below_drew _)
            have hlP : fb < V5.heap.size := W_5.out.lt
            have hnP : ¬ V5.heap.size = fb := by omega
            refine wp_region_upto (S := fun w' => But fb V5 w') (n := 18) (by kernel_rfl) (but_drew _ _) (fun hHeld => ?_)
            refine wpAnyG_take (i := 0) (v := ?_) rfl (by kernel_rfl) (by kernel_rfl) (by kernel_rfl) (by kernel_rfl) (fun _ _ _ h => h) (Or.inl ⟨by rfl, ?_⟩) (by assumption) ?_
            rotate_left
            · (intro w hSw; (try dsimp only at hSw); go_simp; try with_reducible rfl)
            simp only [Act.put, List.setIfInBounds_toArray, List.set_cons_zero, List.set_cons_succ]
            refine wpAnyG_take (i := 1) (v := ?_) rfl (by kernel_rfl) (by kernel_rfl) (by kernel_rfl) (by kernel_rfl) (fun _ _ _ h => h) (Or.inl ⟨by rfl, ?_⟩) (by assumption) ?_
            rotate_left
            · (intro w hSw; (try dsimp only at hSw); go_simp; try with_reducible rfl)
            simp only [Act.put, List.setIfInBounds_toArray, List.set_cons_zero, List.set_cons_succ]
            refine wpAnyG_take (i := 2) (v := ?_) rfl (by kernel_rfl) (by kernel_rfl) (by kernel_rfl) (by kernel_rfl) (fun _ _ _ h => h) (Or.inl ⟨by rfl, ?_⟩) (by assumption) ?_
            rotate_left
            · (intro w hSw; (try dsimp only at hSw); go_simp; try with_reducible rfl)
            simp only [Act.put, List.setIfInBounds_toArray, List.set_cons_zero, List.set_cons_succ]
            refine wpAnyG_take (i := 3) (v := ?_) rfl (by kernel_rfl) (by kernel_rfl) (by kernel_rfl) (by kernel_rfl) (fun _ _ _ h => h) (Or.inl ⟨by rfl, ?_⟩) (by assumption) ?_
            rotate_left
            · (intro w hSw; (try dsimp only at hSw); go_simp; try with_reducible rfl)
            simp only [Act.put, List.setIfInBounds_toArray, List.set_cons_zero, List.set_cons_succ]
            refine wpAnyG_take (i := 4) (v := ?_) rfl (by kernel_rfl) (by kernel_rfl) (by kernel_rfl) (by kernel_rfl) (fun _ _ _ h => h) (Or.inl ⟨by rfl, ?_⟩) (by assumption) ?_
            rotate_left
            · (intro w hSw; (try dsimp only at hSw); go_simp; try with_reducible rfl)
            simp only [Act.put, List.setIfInBounds_toArray, List.set_cons_zero, List.set_cons_succ]
            refine wpAnyG_take (i := 6) (v := ?_) rfl (by kernel_rfl) (by kernel_rfl) (by kernel_rfl) (by kernel_rfl) (fun _ _ _ h => h) (Or.inl ⟨by rfl, ?_⟩) (by assumption) ?_
            rotate_left
            · (intro w hSw; (try dsimp only at hSw); go_simp; try with_reducible rfl)
            simp only [Act.put, List.setIfInBounds_toArray, List.set_cons_zero, List.set_cons_succ]
            refine wpAnyG_one (i := 5) rfl (by kernel_rfl) (fun K hK => ?_)
            go_simp
            go_wp2_with (first | (go_at_call 120; first | ((with_reducible refine (HSr.out _ fb g13 s (((((((b || o0) || od) || oy) || ox) || ok) || oi) || ob) _ _ HWd.out BKd.out MKd.out BPd.out).mono ?_); rintro e w1 ⟨ao1, cap1, rfl, hm1, hw1, hb1⟩; have hk1 : But fb V5 w1 := (by first | exact (but_drew _ _).trans hb1 | exact ((but_drew _ _).alloc _).trans hb1 | exact hb1 | exact ((But.refl _ _).alloc _).trans hb1); obtain ⟨hc1, hf1⟩ := hb1.cells; have hn1 : ¬ w1.heap.size = fb := (by have := hk1.size; omega); (try have hz01 : V5.heap.size < w1.heap.size := (by have := hb1.size; first | omega | (simp at this; omega))))) | (go_at_call 36; first | ((with_reducible refine (HTk.out _ _ (M_5.out.but W_5.out hk1).mv).mono ?_); rintro e w2 ⟨ao2, cap2, rfl, hm2, hd2⟩; have hb2 := But.of_below (fb := fb) hd2; have hw2 : Wk w2 fb ((((((((b || o0) || od) || oy) || ox) || ok) || oi) || ob) || or') := (by first | exact (hw1).later hd2 | exact ((hw1).later (below1 _ _)).later hd2); have hk2 : But fb V5 w2 := (by first | exact hk1.trans hb2 | exact (hk1.alloc _).trans hb2); obtain ⟨hc2, hf2⟩ := hb2.cells; have hn2 : ¬ w2.heap.size = fb := (by have := hk2.size; omega); (try have hz02 : V5.heap.size < w2.heap.size := (by have := hb2.size; first | omega | (simp at this; omega))); (try have hz12 : w1.heap.size < w2.heap.size := (by have := hb2.size; first | omega | (simp at this; omega))); have hm1a := (by first | exact hm1.but (hw1) hb2 | exact (hm1.later (below1 _ _)).but ((hw1).later (below1 _ _)) hb2))) | (go_at_call 20; first | ((with_reducible refine (HMr.out _ _ _ hm1a.mv hm2.mv).mono ?_); rintro e w3 ⟨ao3, cap3, rfl, hm3, hd3⟩; have hb3 := But.of_below (fb := fb) hd3; have hw3 : Wk w3 fb ((((((((b || o0) || od) || oy) || ox) || ok) || oi) || ob) || or') := (by first | exact (hw2).later hd3 | exact ((hw2).later (below1 _ _)).later hd3); have hk3 : But fb V5 w3 := (by first | exact hk2.trans hb3 | exact (hk2.alloc _).trans hb3); obtain ⟨hc3, hf3⟩ := hb3.cells; have hn3 : ¬ w3.heap.size = fb := (by have := hk3.size; omega); (try have hz03 : V5.heap.size < w3.heap.size := (by have := hb3.size; first | omega | (simp at this; omega))); (try have hz13 : w1.heap.size < w3.heap.size := (by have := hb3.size; first | omega | (simp at this; omega))); (try have hz23 : w2.heap.size < w3.heap.size := (by have := hb3.size; first | omega | (simp at this; omega))))) | (go_at_call 104; first | ((with_reducible refine (wmat_any _ fb ((((((((b || o0) || od) || oy) || ox) || ok) || oi) || ob) || or') om n n 0 ao3 lr.length cap3 hw3).mono ?_); rintro e w4 ⟨rfl, hw4, hb4⟩; have hk4 : But fb V5 w4 := (by first | exact hk3.trans hb4 | exact (hk3.alloc _).trans hb4); obtain ⟨hc4, hf4⟩ := hb4.cells; have hn4 : ¬ w4.heap.size = fb := (by have := hk4.size; omega); (try have hz04 : V5.heap.size < w4.heap.size := (by have := hb4.size; first | omega | (simp at this; omega))); (try have hz14 : w1.heap.size < w4.heap.size := (by have := hb4.size; first | omega | (simp at this; omega))); (try have hz24 : w2.heap.size < w4.heap.size := (by have := hb4.size; first | omega | (simp at this; omega))); (try have hz34 : w3.heap.size < w4.heap.size := (by have := hb4.size; first | omega | (simp at this; omega))); have hm4 := (by first | exact hm3.but (hw3) hb4 | exact (hm3.later (below1 _ _)).but ((hw3).later (below1 _ _)) hb4)) | ((with_reducible refine (wmat_any _ fb (((((((((b || o0) || od) || oy) || ox) || ok) || oi) || ob) || or') || om) oa n n 0 ao5 la.length cap5 hw5).mono ?_); rintro e w6 ⟨rfl, hw6, hb6⟩; have hk6 : But fb V5 w6 := (by first | exact hk5.trans hb6 | exact (hk5.alloc _).trans hb6); obtain ⟨hc6, hf6⟩ := hb6.cells; have hn6 : ¬ w6.heap.size = fb := (by have := hk6.size; omega); (try have hz06 : V5.heap.size < w6.heap.size := (by have := hb6.size; first | omega | (simp at this; omega))); (try have hz16 : w1.heap.size < w6.heap.size := (by have := hb6.size; first | omega | (simp at this; omega))); (try have hz26 : w2.heap.size < w6.heap.size := (by have := hb6.size; first | omega | (simp at this; omega))); (try have hz36 : w3.heap.size < w6.heap.size := (by have := hb6.size; first | omega | (simp at this; omega))); (try have hz46 : w4.heap.size < w6.heap.size := (by have := hb6.size; first | omega | (simp at this; omega))); (try have hz56 : w5.heap.size < w6.heap.size := (by have := hb6.size; first | omega | (simp at this; omega))); have hm6 := (by first | exact hm5.but (hw5) hb6 | exact (hm5.later (below1 _ _)).but ((hw5).later (below1 _ _)) hb6))) | (go_at_call 16; first | ((with_reducible refine (HAp.out _ _ _ (D_5.out.but W_5.out hk4).mv hm4.mv).mono ?_); rintro e w5 ⟨ao5, cap5, rfl, hm5, hd5⟩; have hb5 := But.of_below (fb := fb) hd5; have hw5 : Wk w5 fb (((((((((b || o0) || od) || oy) || ox) || ok) || oi) || ob) || or') || om) := (by first | exact (hw4).later hd5 | exact ((hw4).later (below1 _ _)).later hd5); have hk5 : But fb V5 w5 := (by first | exact hk4.trans hb5 | exact (hk4.alloc _).trans hb5); obtain ⟨hc5, hf5⟩ := hb5.cells; have hn5 : ¬ w5.heap.size = fb := (by have := hk5.size; omega); (try have hz05 : V5.heap.size < w5.heap.size := (by have := hb5.size; first | omega | (simp at this; omega))); (try have hz15 : w1.heap.size < w5.heap.size := (by have := hb5.size; first | omega | (simp at this; omega))); (try have hz25 : w2.heap.size < w5.heap.size := (by have := hb5.size; first | omega | (simp at this; omega))); (try have hz35 : w3.heap.size < w5.heap.size := (by have := hb5.size; first | omega | (simp at this; omega))); (try have hz45 : w4.heap.size < w5.heap.size := (by have := hb5.size; first | omega | (simp at this; omega))))))
            refine hK.out _ _ (fun _ => (by with_reducible assumption)) (fun hHeld' => ?_)
            clear hK K hHeld hHeld'
            have hHeld := hk1
            refine wpAnyG_one (i := 7) rfl (by kernel_rfl) (fun K hK => ?_)
            go_simp
            go_wp2_with (first | (go_at_call 120; first | ((with_reducible refine (HSr.out _ fb g13 s (((((((b || o0) || od) || oy) || ox) || ok) || oi) || ob) _ _ HWd.out BKd.out MKd.out BPd.out).mono ?_); rintro e w1 ⟨ao1, cap1, rfl, hm1, hw1, hb1⟩; have hk1 : But fb V5 w1 := (by first | exact (but_drew _ _).trans hb1 | exact ((but_drew _ _).alloc _).trans hb1 | exact hb1 | exact ((But.refl _ _).alloc _).trans hb1); obtain ⟨hc1, hf1⟩ := hb1.cells; have hn1 : ¬ w1.heap.size = fb := (by have := hk1.size; omega); (try have hz01 : V5.heap.size < w1.heap.size := (by have := hb1.size; first | omega | (simp at this; omega))))) | (go_at_call 36; first | ((with_reducible refine (HTk.out _ _ (M_5.out.but W_5.out hk1).mv).mono ?_); rintro e w2 ⟨ao2, cap2, rfl, hm2, hd2⟩; have hb2 := But.of_below (fb := fb) hd2; have hw2 : Wk w2 fb ((((((((b || o0) || od) || oy) || ox) || ok) || oi) || ob) || or') := (by first | exact (hw1).later hd2 | exact ((hw1).later (below1 _ _)).later hd2); have hk2 : But fb V5 w2 := (by first | exact hk1.trans hb2 | exact (hk1.alloc _).trans hb2); obtain ⟨hc2, hf2⟩ := hb2.cells; have hn2 : ¬ w2.heap.size = fb := (by have := hk2.size; omega); (try have hz02 : V5.heap.size < w2.heap.size := (by have := hb2.size; first | omega | (simp at this; omega))); (try have hz12 : w1.heap.size < w2.heap.size := (by have := hb2.size; first | omega | (simp at this; omega))); have hm1a := (by first | exact hm1.but (hw1) hb2 | exact (hm1.later (below1 _ _)).but ((hw1).later (below1 _ _)) hb2))) | (go_at_call 20; first | ((with_reducible refine (HMr.out _ _ _ hm1a.mv hm2.mv).mono ?_); rintro e w3 ⟨ao3, cap3, rfl, hm3, hd3⟩; have hb3 := But.of_below (fb := fb) hd3; have hw3 : Wk w3 fb ((((((((b || o0) || od) || oy) || ox) || ok) || oi) || ob) || or') := (by first | exact (hw2).later hd3 | exact ((hw2).later (below1 _ _)).later hd3); have hk3 : But fb V5 w3 := (by first | exact hk2.trans hb3 | exact (hk2.alloc _).trans hb3); obtain ⟨hc3, hf3⟩ := hb3.cells; have hn3 : ¬ w3.heap.size = fb := (by have := hk3.size; omega); (try have hz03 : V5.heap.size < w3.heap.size := (by have := hb3.size; first | omega | (simp at this; omega))); (try have hz13 : w1.heap.size < w3.heap.size := (by have := hb3.size; first | omega | (simp at this; omega))); (try have hz23 : w2.heap.size < w3.heap.size := (by have := hb3.size; first | omega | (simp at this; omega))))) | (go_at_call 104; first | ((with_reducible refine (wmat_any _ fb ((((((((b || o0) || od) || oy) || ox) || ok) || oi) || ob) || or') om n n 0 ao3 lr.length cap3 hw3).mono ?_); rintro e w4 ⟨rfl, hw4, hb4⟩; have hk4 : But fb V5 w4 := (by first | exact hk3.trans hb4 | exact (hk3.alloc _).trans hb4); obtain ⟨hc4, hf4⟩ := hb4.cells; have hn4 : ¬ w4.heap.size = fb := (by have := hk4.size; omega); (try have hz04 : V5.heap.size < w4.heap.size := (by have := hb4.size; first | omega | (simp at this; omega))); (try have hz14 : w1.heap.size < w4.heap.size := (by have := hb4.size; first | omega | (simp at this; omega))); (try have hz24 : w2.heap.size < w4.heap.size := (by have := hb4.size; first | omega | (simp at this; omega))); (try have hz34 : w3.heap.size < w4.heap.size := (by have := hb4.size; first | omega | (simp at this; omega))); have hm4 := (by first | exact hm3.but (hw3) hb4 | exact (hm3.later (below1 _ _)).but ((hw3).later (below1 _ _)) hb4)) | ((with_reducible refine (wmat_any _ fb (((((((((b || o0) || od) || oy) || ox) || ok) || oi) || ob) || or') || om) oa n n 0 ao5 la.length cap5 hw5).mono ?_); rintro e w6 ⟨rfl, hw6, hb6⟩; have hk6 : But fb V5 w6 := (by first | exact hk5.trans hb6 | exact (hk5.alloc _).trans hb6); obtain ⟨hc6, hf6⟩ := hb6.cells; have hn6 : ¬ w6.heap.size = fb := (by have := hk6.size; omega); (try have hz06 : V5.heap.size < w6.heap.size := (by have := hb6.size; first | omega | (simp at this; omega))); (try have hz16 : w1.heap.size < w6.heap.size := (by have := hb6.size; first | omega | (simp at this; omega))); (try have hz26 : w2.heap.size < w6.heap.size := (by have := hb6.size; first | omega | (simp at this; omega))); (try have hz36 : w3.heap.size < w6.heap.size := (by have := hb6.size; first | omega | (simp at this; omega))); (try have hz46 : w4.heap.size < w6.heap.size := (by have := hb6.size; first | omega | (simp at this; omega))); (try have hz56 : w5.heap.size < w6.heap.size := (by have := hb6.size; first | omega | (simp at this; omega))); have hm6 := (by first | exact hm5.but (hw5) hb6 | exact (hm5.later (below1 _ _)).but ((hw5).later (below1 _ _)) hb6))) | (go_at_call 16; first | ((with_reducible refine (HAp.out _ _ _ (D_5.out.but W_5.out hk4).mv hm4.mv).mono ?_); rintro e w5 ⟨ao5, cap5, rfl, hm5, hd5⟩; have hb5 := But.of_below (fb := fb) hd5; have hw5 : Wk w5 fb (((((((((b || o0) || od) || oy) || ox) || ok) || oi) || ob) || or') || om) := (by first | exact (hw4).later hd5 | exact ((hw4).later (below1 _ _)).later hd5); have hk5 : But fb V5 w5 := (by first | exact hk4.trans hb5 | exact (hk4.alloc _).trans hb5); obtain ⟨hc5, hf5⟩ := hb5.cells; have hn5 : ¬ w5.heap.size = fb := (by have := hk5.size; omega); (try have hz05 : V5.heap.size < w5.heap.size := (by have := hb5.size; first | omega | (simp at this; omega))); (try have hz15 : w1.heap.size < w5.heap.size := (by have := hb5.size; first | omega | (simp at this; omega))); (try have hz25 : w2.heap.size < w5.heap.size := (by have := hb5.size; first | omega | (simp at this; omega))); (try have hz35 : w3.heap.size < w5.heap.size := (by have := hb5.size; first | omega | (simp at this; omega))); (try have hz45 : w4.heap.size < w5.heap.size := (by have := hb5.size; first | omega | (simp at this; omega))))))
            refine hK.out _ _ (fun _ => (by with_reducible assumption)) (fun hHeld' => ?_)
            clear hK K hHeld hHeld'
            have hHeld := hk2
            refine wpAnyG_one (i := 8) rfl (by kernel_rfl) (fun K hK => ?_)
            go_simp
            go_wp2_with (first | (go_at_call 120; first | ((with_reducible refine (HSr.out _ fb g13 s (((((((b || o0) || od) || oy) || ox) || ok) || oi) || ob) _ _ HWd.out BKd.out MKd.out BPd.out).mono ?_); rintro e w1 ⟨ao1, cap1, rfl, hm1, hw1, hb1⟩; have hk1 : But fb V5 w1 := (by first | exact (but_drew _ _).trans hb1 | exact ((but_drew _ _).alloc _).trans hb1 | exact hb1 | exact ((But.refl _ _).alloc _).trans hb1); obtain ⟨hc1, hf1⟩ := hb1.cells; have hn1 : ¬ w1.heap.size = fb := (by have := hk1.size; omega); (try have hz01 : V5.heap.size < w1.heap.size := (by have := hb1.size; first | omega | (simp at this; omega))))) | (go_at_call 36; first | ((with_reducible refine (HTk.out _ _ (M_5.out.but W_5.out hk1).mv).mono ?_); rintro e w2 ⟨ao2, cap2, rfl, hm2, hd2⟩; have hb2 := But.of_below (fb := fb) hd2; have hw2 : Wk w2 fb ((((((((b || o0) || od) || oy) || ox) || ok) || oi) || ob) || or') := (by first | exact (hw1).later hd2 | exact ((hw1).later (below1 _ _)).later hd2); have hk2 : But fb V5 w2 := (by first | exact hk1.trans hb2 | exact (hk1.alloc _).trans hb2); obtain ⟨hc2, hf2⟩ := hb2.cells; have hn2 : ¬ w2.heap.size = fb := (by have := hk2.size; omega); (try have hz02 : V5.heap.size < w2.heap.size := (by have := hb2.size; first | omega | (simp at this; omega))); (try have hz12 : w1.heap.size < w2.heap.size := (by have := hb2.size; first | omega | (simp at this; omega))); have hm1a := (by first | exact hm1.but (hw1) hb2 | exact (hm1.later (below1 _ _)).but ((hw1).later (below1 _ _)) hb2))) | (go_at_call 20; first | ((with_reducible refine (HMr.out _ _ _ hm1a.mv hm2.mv).mono ?_); rintro e w3 ⟨ao3, cap3, rfl, hm3, hd3⟩; have hb3 := But.of_below (fb := fb) hd3; have hw3 : Wk w3 fb ((((((((b || o0) || od) || oy) || ox) || ok) || oi) || ob) || or') := (by first | exact (hw2).later hd3 | exact ((hw2).later (below1 _ _)).later hd3); have hk3 : But fb V5 w3 := (by first | exact hk2.trans hb3 | exact (hk2.alloc _).trans hb3); obtain ⟨hc3, hf3⟩ := hb3.cells; have hn3 : ¬ w3.heap.size = fb := (by have := hk3.size; omega); (try have hz03 : V5.heap.size < w3.heap.size := (by have := hb3.size; first | omega | (simp at this; omega))); (try have hz13 : w1.heap.size < w3.heap.size := (by have := hb3.size; first | omega | (simp at this; omega))); (try have hz23 : w2.heap.size < w3.heap.size := (by have := hb3.size; first | omega | (simp at this; omega))))) | (go_at_call 104; first | ((with_reducible refine (wmat_any _ fb ((((((((b || o0) || od) || oy) || ox) || ok) || oi) || ob) || or') om n n 0 ao3 lr.length cap3 hw3).mono ?_); rintro e w4 ⟨rfl, hw4, hb4⟩; have hk4 : But fb V5 w4 := (by first | exact hk3.trans hb4 | exact (hk3.alloc _).trans hb4); obtain ⟨hc4, hf4⟩ := hb4.cells; have hn4 : ¬ w4.heap.size = fb := (by have := hk4.size; omega); (try have hz04 : V5.heap.size < w4.heap.size := (by have := hb4.size; first | omega | (simp at this; omega))); (try have hz14 : w1.heap.size < w4.heap.size := (by have := hb4.size; first | omega | (simp at this; omega))); (try have hz24 : w2.heap.size < w4.heap.size := (by have := hb4.size; first | omega | (simp at this; omega))); (try have hz34 : w3.heap.size < w4.heap.size := (by have := hb4.size; first | omega | (simp at this; omega))); have hm4 := (by first | exact hm3.but (hw3) hb4 | exact (hm3.later (below1 _ _)).but ((hw3).later (below1 _ _)) hb4)) | ((with_reducible refine (wmat_any _ fb (((((((((b || o0) || od) || oy) || ox) || ok) || oi) || ob) || or') || om) oa n n 0 ao5 la.length cap5 hw5).mono ?_); rintro e w6 ⟨rfl, hw6, hb6⟩; have hk6 : But fb V5 w6 := (by first | exact hk5.trans hb6 | exact (hk5.alloc _).trans hb6); obtain ⟨hc6, hf6⟩ := hb6.cells; have hn6 : ¬ w6.heap.size = fb := (by have := hk6.size; omega); (try have hz06 : V5.heap.size < w6.heap.size := (by have := hb6.size; first | omega | (simp at this; omega))); (try have hz16 : w1.heap.size < w6.heap.size := (by have := hb6.size; first | omega | (simp at this; omega))); (try have hz26 : w2.heap.size < w6.heap.size := (by have := hb6.size; first | omega | (simp at this; omega))); (try have hz36 : w3.heap.size < w6.heap.size := (by have := hb6.size; first | omega | (simp at this; omega))); (try have hz46 : w4.heap.size < w6.heap.size := (by have := hb6.size; first | omega | (simp at this; omega))); (try have hz56 : w5.heap.size < w6.heap.size := (by have := hb6.size; first | omega | (simp at this; omega))); have hm6 := (by first | exact hm5.but (hw5) hb6 | exact (hm5.later (below1 _ _)).but ((hw5).later (below1 _ _)) hb6))) | (go_at_call 16; first | ((with_reducible refine (HAp.out _ _ _ (D_5.out.but W_5.out hk4).mv hm4.mv).mono ?_); rintro e w5 ⟨ao5, cap5, rfl, hm5, hd5⟩; have hb5 := But.of_below (fb := fb) hd5; have hw5 : Wk w5 fb (((((((((b || o0) || od) || oy) || ox) || ok) || oi) || ob) || or') || om) := (by first | exact (hw4).later hd5 | exact ((hw4).later (below1 _ _)).later hd5); have hk5 : But fb V5 w5 := (by first | exact hk4.trans hb5 | exact (hk4.alloc _).trans hb5); obtain ⟨hc5, hf5⟩ := hb5.cells; have hn5 : ¬ w5.heap.size = fb := (by have := hk5.size; omega); (try have hz05 : V5.heap.size < w5.heap.size := (by have := hb5.size; first | omega | (simp at this; omega))); (try have hz15 : w1.heap.size < w5.heap.size := (by have := hb5.size; first | omega | (simp at this; omega))); (try have hz25 : w2.heap.size < w5.heap.size := (by have := hb5.size; first | omega | (simp at this; omega))); (try have hz35 : w3.heap.size < w5.heap.size := (by have := hb5.size; first | omega | (simp at this; omega))); (try have hz45 : w4.heap.size < w5.heap.size := (by have := hb5.size; first | omega | (simp at this; omega))))))
            refine hK.out _ _ (fun _ => (by with_reducible assumption)) (fun hHeld' => ?_)
            clear hK K hHeld hHeld'
            have hHeld := hk3
            refine wpAnyG_take (i := 9) (v := ?_) rfl (by kernel_rfl) (by kernel_rfl) (by kernel_rfl) (by kernel_rfl) (fun _ _ _ h => h) (Or.inl ⟨by rfl, ?_⟩) (by assumption) ?_
            rotate_left
            · (intro w hSw; (try dsimp only at hSw); go_simp; try with_reducible rfl)
            simp only [Act.put, List.setIfInBounds_toArray, List.set_cons_zero, List.set_cons_succ]
            refine wpAnyG_take (i := 10) (v := ?_) rfl (by kernel_rfl) (by kernel_rfl) (by kernel_rfl) (by kernel_rfl) (fun _ _ _ h => h) (Or.inl ⟨by rfl, ?_⟩) (by assumption) ?_
            rotate_left
            · (intro w hSw; (try dsimp only at hSw); go_simp; try with_reducible rfl)
            simp only [Act.put, List.setIfInBounds_toArray, List.set_cons_zero, List.set_cons_succ]
            refine wpAnyG_take (i := 11) (v := ?_) rfl (by kernel_rfl) (by kernel_rfl) (by kernel_rfl) (by kernel_rfl) (fun _ _ _ h => h) (Or.inl ⟨by rfl, ?_⟩) (by assumption) ?_
            rotate_left
            · (intro w hSw; (try dsimp only at hSw); go_simp; try with_reducible rfl)
            simp only [Act.put, List.setIfInBounds_toArray, List.set_cons_zero, List.set_cons_succ]
            refine wpAnyG_one (i := 12) rfl (by kernel_rfl) (fun K hK => ?_)
            go_simp
            go_wp2_with (first | (go_at_call 120; first | ((with_reducible refine (HSr.out _ fb g13 s (((((((b || o0) || od) || oy) || ox) || ok) || oi) || ob) _ _ HWd.out BKd.out MKd.out BPd.out).mono ?_); rintro e w1 ⟨ao1, cap1, rfl, hm1, hw1, hb1⟩; have hk1 : But fb V5 w1 := (by first | exact (but_drew _ _).trans hb1 | exact ((but_drew _ _).alloc _).trans hb1 | exact hb1 | exact ((But.refl _ _).alloc _).trans hb1); obtain ⟨hc1, hf1⟩ := hb1.cells; have hn1 : ¬ w1.heap.size = fb := (by have := hk1.size; omega); (try have hz01 : V5.heap.size < w1.heap.size := (by have := hb1.size; first | omega | (simp at this; omega))))) | (go_at_call 36; first | ((with_reducible refine (HTk.out _ _ (M_5.out.but W_5.out hk1).mv).mono ?_); rintro e w2 ⟨ao2, cap2, rfl, hm2, hd2⟩; have hb2 := But.of_below (fb := fb) hd2; have hw2 : Wk w2 fb ((((((((b || o0) || od) || oy) || ox) || ok) || oi) || ob) || or') := (by first | exact (hw1).later hd2 | exact ((hw1).later (below1 _ _)).later hd2); have hk2 : But fb V5 w2 := (by first | exact hk1.trans hb2 | exact (hk1.alloc _).trans hb2); obtain ⟨hc2, hf2⟩ := hb2.cells; have hn2 : ¬ w2.heap.size = fb := (by have := hk2.size; omega); (try have hz02 : V5.heap.size < w2.heap.size := (by have := hb2.size; first | omega | (simp at this; omega))); (try have hz12 : w1.heap.size < w2.heap.size := (by have := hb2.size; first | omega | (simp at this; omega))); have hm1a := (by first | exact hm1.but (hw1) hb2 | exact (hm1.later (below1 _ _)).but ((hw1).later (below1 _ _)) hb2))) | (go_at_call 20; first | ((with_reducible refine (HMr.out _ _ _ hm1a.mv hm2.mv).mono ?_); rintro e w3 ⟨ao3, cap3, rfl, hm3, hd3⟩; have hb3 := But.of_below (fb := fb) hd3; have hw3 : Wk w3 fb ((((((((b || o0) || od) || oy) || ox) || ok) || oi) || ob) || or') := (by first | exact (hw2).later hd3 | exact ((hw2).later (below1 _ _)).later hd3); have hk3 : But fb V5 w3 := (by first | exact hk2.trans hb3 | exact (hk2.alloc _).trans hb3); obtain ⟨hc3, hf3⟩ := hb3.cells; have hn3 : ¬ w3.heap.size = fb := (by have := hk3.size; omega); (try have hz03 : V5.heap.size < w3.heap.size := (by have := hb3.size; first | omega | (simp at this; omega))); (try have hz13 : w1.heap.size < w3.heap.size := (by have := hb3.size; first | omega | (simp at this; omega))); (try have hz23 : w2.heap.size < w3.heap.size := (by have := hb3.size; first | omega | (simp at this; omega))))) | (go_at_call 104; first | ((with_reducible refine (wmat_any _ fb ((((((((b || o0) || od) || oy) || ox) || ok) || oi) || ob) || or') om n n 0 ao3 lr.length cap3 hw3).mono ?_); rintro e w4 ⟨rfl, hw4, hb4⟩; have hk4 : But fb V5 w4 := (by first | exact hk3.trans hb4 | exact (hk3.alloc _).trans hb4); obtain ⟨hc4, hf4⟩ := hb4.cells; have hn4 : ¬ w4.heap.size = fb := (by have := hk4.size; omega); (try have hz04 : V5.heap.size < w4.heap.size := (by have := hb4.size; first | omega | (simp at this; omega))); (try have hz14 : w1.heap.size < w4.heap.size := (by have := hb4.size; first | omega | (simp at this; omega))); (try have hz24 : w2.heap.size < w4.heap.size := (by have := hb4.size; first | omega | (simp at this; omega))); (try have hz34 : w3.heap.size < w4.heap.size := (by have := hb4.size; first | omega | (simp at this; omega))); have hm4 := (by first | exact hm3.but (hw3) hb4 | exact (hm3.later (below1 _ _)).but ((hw3).later (below1 _ _)) hb4)) | ((with_reducible refine (wmat_any _ fb (((((((((b || o0) || od) || oy) || ox) || ok) || oi) || ob) || or') || om) oa n n 0 ao5 la.length cap5 hw5).mono ?_); rintro e w6 ⟨rfl, hw6, hb6⟩; have hk6 : But fb V5 w6 := (by first | exact hk5.trans hb6 | exact (hk5.alloc _).trans hb6); obtain ⟨hc6, hf6⟩ := hb6.cells; have hn6 : ¬ w6.heap.size = fb := (by have := hk6.size; omega); (try have hz06 : V5.heap.size < w6.heap.size := (by have := hb6.size; first | omega | (simp at this; omega))); (try have hz16 : w1.heap.size < w6.heap.size := (by have := hb6.size; first | omega | (simp at this; omega))); (try have hz26 : w2.heap.size < w6.heap.size := (by have := hb6.size; first | omega | (simp at this; omega))); (try have hz36 : w3.heap.size < w6.heap.size := (by have := hb6.size; first | omega | (simp at this; omega))); (try have hz46 : w4.heap.size < w6.heap.size := (by have := hb6.size; first | omega | (simp at this; omega))); (try have hz56 : w5.heap.size < w6.heap.size := (by have := hb6.size; first | omega | (simp at this; omega))); have hm6 := (by first | exact hm5.but (hw5) hb6 | exact (hm5.later (below1 _ _)).but ((hw5).later (below1 _ _)) hb6))) | (go_at_call 16; first | ((with_reducible refine (HAp.out _ _ _ (D_5.out.but W_5.out hk4).mv hm4.mv).mono ?_); rintro e w5 ⟨ao5, cap5, rfl, hm5, hd5⟩; have hb5 := But.of_below (fb := fb) hd5; have hw5 : Wk w5 fb (((((((((b || o0) || od) || oy) || ox) || ok) || oi) || ob) || or') || om) := (by first | exact (hw4).later hd5 | exact ((hw4).later (below1 _ _)).later hd5); have hk5 : But fb V5 w5 := (by first | exact hk4.trans hb5 | exact (hk4.alloc _).trans hb5); obtain ⟨hc5, hf5⟩ := hb5.cells; have hn5 : ¬ w5.heap.size = fb := (by have := hk5.size; omega); (try have hz05 : V5.heap.size < w5.heap.size := (by have := hb5.size; first | omega | (simp at this; omega))); (try have hz15 : w1.heap.size < w5.heap.size := (by have := hb5.size; first | omega | (simp at this; omega))); (try have hz25 : w2.heap.size < w5.heap.size := (by have := hb5.size; first | omega | (simp at this; omega))); (try have hz35 : w3.heap.size < w5.heap.size := (by have := hb5.size; first | omega | (simp at this; omega))); (try have hz45 : w4.heap.size < w5.heap.size := (by have := hb5.size; first | omega | (simp at this; omega))))))
            refine hK.out _ _ (fun _ => (by with_reducible assumption)) (fun hHeld' => ?_)
            clear hK K hHeld hHeld'
            have hHeld := hk4
            refine wpAnyG_one (i := 13) rfl (by kernel_rfl) (fun K hK => ?_)
            go_simp
            go_wp2_with (first | (go_at_call 120; first | ((with_reducible refine (HSr.out _ fb g13 s (((((((b || o0) || od) || oy) || ox) || ok) || oi) || ob) _ _ HWd.out BKd.out MKd.out BPd.out).mono ?_); rintro e w1 ⟨ao1, cap1, rfl, hm1, hw1, hb1⟩; have hk1 : But fb V5 w1 := (by first | exact (but_drew _ _).trans hb1 | exact ((but_drew _ _).alloc _).trans hb1 | exact hb1 | exact ((But.refl _ _).alloc _).trans hb1); obtain ⟨hc1, hf1⟩ := hb1.cells; have hn1 : ¬ w1.heap.size = fb := (by have := hk1.size; omega); (try have hz01 : V5.heap.size < w1.heap.size := (by have := hb1.size; first | omega | (simp at this; omega))))) | (go_at_call 36; first | ((with_reducible refine (HTk.out _ _ (M_5.out.but W_5.out hk1).mv).mono ?_); rintro e w2 ⟨ao2, cap2, rfl, hm2, hd2⟩; have hb2 := But.of_below (fb := fb) hd2; have hw2 : Wk w2 fb ((((((((b || o0) || od) || oy) || ox) || ok) || oi) || ob) || or') := (by first | exact (hw1).later hd2 | exact ((hw1).later (below1 _ _)).later hd2); have hk2 : But fb V5 w2 := (by first | exact hk1.trans hb2 | exact (hk1.alloc _).trans hb2); obtain ⟨hc2, hf2⟩ := hb2.cells; have hn2 : ¬ w2.heap.size = fb := (by have := hk2.size; omega); (try have hz02 : V5.heap.size < w2.heap.size := (by have := hb2.size; first | omega | (simp at this; omega))); (try have hz12 : w1.heap.size < w2.heap.size := (by have := hb2.size; first | omega | (simp at this; omega))); have hm1a := (by first | exact hm1.but (hw1) hb2 | exact (hm1.later (below1 _ _)).but ((hw1).later (below1 _ _)) hb2))) | (go_at_call 20; first | ((with_reducible refine (HMr.out _ _ _ hm1a.mv hm2.mv).mono ?_); rintro e w3 ⟨ao3, cap3, rfl, hm3, hd3⟩; have hb3 := But.of_below (fb := fb) hd3; have hw3 : Wk w3 fb ((((((((b || o0) || od) || oy) || ox) || ok) || oi) || ob) || or') := (by first | exact (hw2).later hd3 | exact ((hw2).later (below1 _ _)).later hd3); have hk3 : But fb V5 w3 := (by first | exact hk2.trans hb3 | exact (hk2.alloc _).trans hb3); obtain ⟨hc3, hf3⟩ := hb3.cells; have hn3 : ¬ w3.heap.size = fb := (by have := hk3.size; omega); (try have hz03 : V5.heap.size < w3.heap.size := (by have := hb3.size; first | omega | (simp at this; omega))); (try have hz13 : w1.heap.size < w3.heap.size := (by have := hb3.size; first | omega | (simp at this; omega))); (try have hz23 : w2.heap.size < w3.heap.size := (by have := hb3.size; first | omega | (simp at this; omega))))) | (go_at_call 104; first | ((with_reducible refine (wmat_any _ fb ((((((((b || o0) || od) || oy) || ox) || ok) || oi) || ob) || or') om n n 0 ao3 lr.length cap3 hw3).mono ?_); rintro e w4 ⟨rfl, hw4, hb4⟩; have hk4 : But fb V5 w4 := (by first | exact hk3.trans hb4 | exact (hk3.alloc _).trans hb4); obtain ⟨hc4, hf4⟩ := hb4.cells; have hn4 : ¬ w4.heap.size = fb := (by have := hk4.size; omega); (try have hz04 : V5.heap.size < w4.heap.size := (by have := hb4.size; first | omega | (simp at this; omega))); (try have hz14 : w1.heap.size < w4.heap.size := (by have := hb4.size; first | omega | (simp at this; omega))); (try have hz24 : w2.heap.size < w4.heap.size := (by have := hb4.size; first | omega | (simp at this; omega))); (try have hz34 : w3.heap.size < w4.heap.size := (by have := hb4.size; first | omega | (simp at this; omega))); have hm4 := (by first | exact hm3.but (hw3) hb4 | exact (hm3.later (below1 _ _)).but ((hw3).later (below1 _ _)) hb4)) | ((with_reducible refine (wmat_any _ fb (((((((((b || o0) || od) || oy) || ox) || ok) || oi) || ob) || or') || om) oa n n 0 ao5 la.length cap5 hw5).mono ?_); rintro e w6 ⟨rfl, hw6, hb6⟩; have hk6 : But fb V5 w6 := (by first | exact hk5.trans hb6 | exact (hk5.alloc _).trans hb6); obtain ⟨hc6, hf6⟩ := hb6.cells; have hn6 : ¬ w6.heap.size = fb := (by have := hk6.size; omega); (try have hz06 : V5.heap.size < w6.heap.size := (by have := hb6.size; first | omega | (simp at this; omega))); (try have hz16 : w1.heap.size < w6.heap.size := (by have := hb6.size; first | omega | (simp at this; omega))); (try have hz26 : w2.heap.size < w6.heap.size := (by have := hb6.size; first | omega | (simp at this; omega))); (try have hz36 : w3.heap.size < w6.heap.size := (by have := hb6.size; first | omega | (simp at this; omega))); (try have hz46 : w4.heap.size < w6.heap.size := (by have := hb6.size; first | omega | (simp at this; omega))); (try have hz56 : w5.heap.size < w6.heap.size := (by have := hb6.size; first | omega | (simp at this; omega))); have hm6 := (by first | exact hm5.but (hw5) hb6 | exact (hm5.later (below1 _ _)).but ((hw5).later (below1 _ _)) hb6))) | (go_at_call 16; first | ((with_reducible refine (HAp.out _ _ _ (D_5.out.but W_5.out hk4).mv hm4.mv).mono ?_); rintro e w5 ⟨ao5, cap5, rfl, hm5, hd5⟩; have hb5 := But.of_below (fb := fb) hd5; have hw5 : Wk w5 fb (((((((((b || o0) || od) || oy) || ox) || ok) || oi) || ob) || or') || om) := (by first | exact (hw4).later hd5 | exact ((hw4).later (below1 _ _)).later hd5); have hk5 : But fb V5 w5 := (by first | exact hk4.trans hb5 | exact (hk4.alloc _).trans hb5); obtain ⟨hc5, hf5⟩ := hb5.cells; have hn5 : ¬ w5.heap.size = fb := (by have := hk5.size; omega); (try have hz05 : V5.heap.size < w5.heap.size := (by have := hb5.size; first | omega | (simp at this; omega))); (try have hz15 : w1.heap.size < w5.heap.size := (by have := hb5.size; first | omega | (simp at this; omega))); (try have hz25 : w2.heap.size < w5.heap.size := (by have := hb5.size; first | omega | (simp at this; omega))); (try have hz35 : w3.heap.size < w5.heap.size := (by have := hb5.size; first | omega | (simp at this; omega))); (try have hz45 : w4.heap.size < w5.heap.size := (by have := hb5.size; first | omega | (simp at this; omega))))))
            refine hK.out _ _ (fun _ => (by with_reducible assumption)) (fun hHeld' => ?_)
            clear hK K hHeld hHeld'
            have hHeld := hk5
            refine wpAnyG_take (i := 14) (v := ?_) rfl (by kernel_rfl) (by kernel_rfl) (by kernel_rfl) (by kernel_rfl) (fun _ _ _ h => h) (Or.inl ⟨by rfl, ?_⟩) (by assumption) ?_
            rotate_left
            · (intro w hSw; (try dsimp only at hSw); go_simp; try with_reducible rfl)
            simp only [Act.put, List.setIfInBounds_toArray, List.set_cons_zero, List.set_cons_succ]
            refine wpAnyG_take (i := 15) (v := ?_) rfl (by kernel_rfl) (by kernel_rfl) (by kernel_rfl) (by kernel_rfl) (fun _ _ _ h => h) (Or.inl ⟨by rfl, ?_⟩) (by assumption) ?_
            rotate_left
            · (intro w hSw; (try dsimp only at hSw); go_simp; try with_reducible rfl)
            simp only [Act.put, List.setIfInBounds_toArray, List.set_cons_zero, List.set_cons_succ]
            refine wpAnyG_take (i := 16) (v := ?_) rfl (by kernel_rfl) (by kernel_rfl) (by kernel_rfl) (by kernel_rfl) (fun _ _ _ h => h) (Or.inl ⟨by rfl, ?_⟩) (by assumption) ?_
            rotate_left
            · (intro w hSw; (try dsimp only at hSw); go_simp; try with_reducible rfl)
            simp only [Act.put, List.setIfInBounds_toArray, List.set_cons_zero, List.set_cons_succ]
            refine wpAnyG_one (i := 17) rfl (by kernel_rfl) (fun K hK => ?_)
            go_simp
            go_wp2_with (first | (go_at_call 120; first | ((with_reducible refine (HSr.out _ fb g13 s (((((((b || o0) || od) || oy) || ox) || ok) || oi) || ob) _ _ HWd.out BKd.out MKd.out BPd.out).mono ?_); rintro e w1 ⟨ao1, cap1, rfl, hm1, hw1, hb1⟩; have hk1 : But fb V5 w1 := (by first | exact (but_drew _ _).trans hb1 | exact ((but_drew _ _).alloc _).trans hb1 | exact hb1 | exact ((But.refl _ _).alloc _).trans hb1); obtain ⟨hc1, hf1⟩ := hb1.cells; have hn1 : ¬ w1.heap.size = fb := (by have := hk1.size; omega); (try have hz01 : V5.heap.size < w1.heap.size := (by have := hb1.size; first | omega | (simp at this; omega))))) | (go_at_call 36; first | ((with_reducible refine (HTk.out _ _ (M_5.out.but W_5.out hk1).mv).mono ?_); rintro e w2 ⟨ao2, cap2, rfl, hm2, hd2⟩; have hb2 := But.of_below (fb := fb) hd2; have hw2 : Wk w2 fb ((((((((b || o0) || od) || oy) || ox) || ok) || oi) || ob) || or') := (by first | exact (hw1).later hd2 | exact ((hw1).later (below1 _ _)).later hd2); have hk2 : But fb V5 w2 := (by first | exact hk1.trans hb2 | exact (hk1.alloc _).trans hb2); obtain ⟨hc2, hf2⟩ := hb2.cells; have hn2 : ¬ w2.heap.size = fb := (by have := hk2.size; omega); (try have hz02 : V5.heap.size < w2.heap.size := (by have := hb2.size; first | omega | (simp at this; omega))); (try have hz12 : w1.heap.size < w2.heap.size := (by have := hb2.size; first | omega | (simp at this; omega))); have hm1a := (by first | exact hm1.but (hw1) hb2 | exact (hm1.later (below1 _ _)).but ((hw1).later (below1 _ _)) hb2))) | (go_at_call 20; first | ((with_reducible refine (HMr.out _ _ _ hm1a.mv hm2.mv).mono ?_); rintro e w3 ⟨ao3, cap3, rfl, hm3, hd3⟩; have hb3 := But.of_below (fb := fb) hd3; have hw3 : Wk w3 fb ((((((((b || o0) || od) || oy) || ox) || ok) || oi) || ob) || or') := (by first | exact (hw2).later hd3 | exact ((hw2).later (below1 _ _)).later hd3); have hk3 : But fb V5 w3 := (by first | exact hk2.trans hb3 | exact (hk2.alloc _).trans hb3); obtain ⟨hc3, hf3⟩ := hb3.cells; have hn3 : ¬ w3.heap.size = fb := (by have := hk3.size; omega); (try have hz03 : V5.heap.size < w3.heap.size := (by have := hb3.size; first | omega | (simp at this; omega))); (try have hz13 : w1.heap.size < w3.heap.size := (by have := hb3.size; first | omega | (simp at this; omega))); (try have hz23 : w2.heap.size < w3.heap.size := (by have := hb3.size; first | omega | (simp at this; omega))))) | (go_at_call 104; first | ((with_reducible refine (wmat_any _ fb ((((((((b || o0) || od) || oy) || ox) || ok) || oi) || ob) || or') om n n 0 ao3 lr.length cap3 hw3).mono ?_); rintro e w4 ⟨rfl, hw4, hb4⟩; have hk4 : But fb V5 w4 := (by first | exact hk3.trans hb4 | exact (hk3.alloc _).trans hb4); obtain ⟨hc4, hf4⟩ := hb4.cells; have hn4 : ¬ w4.heap.size = fb := (by have := hk4.size; omega); (try have hz04 : V5.heap.size < w4.heap.size := (by have := hb4.size; first | omega | (simp at this; omega))); (try have hz14 : w1.heap.size < w4.heap.size := (by have := hb4.size; first | omega | (simp at this; omega))); (try have hz24 : w2.heap.size < w4.heap.size := (by have := hb4.size; first | omega | (simp at this; omega))); (try have hz34 : w3.heap.size < w4.heap.size := (by have := hb4.size; first | omega | (simp at this; omega))); have hm4 := (by first | exact hm3.but (hw3) hb4 | exact (hm3.later (below1 _ _)).but ((hw3).later (below1 _ _)) hb4)) | ((with_reducible refine (wmat_any _ fb (((((((((b || o0) || od) || oy) || ox) || ok) || oi) || ob) || or') || om) oa n n 0 ao5 la.length cap5 hw5).mono ?_); rintro e w6 ⟨rfl, hw6, hb6⟩; have hk6 : But fb V5 w6 := (by first | exact hk5.trans hb6 | exact (hk5.alloc _).trans hb6); obtain ⟨hc6, hf6⟩ := hb6.cells; have hn6 : ¬ w6.heap.size = fb := (by have := hk6.size; omega); (try have hz06 : V5.heap.size < w6.heap.size := (by have := hb6.size; first | omega | (simp at this; omega))); (try have hz16 : w1.heap.size < w6.heap.size := (by have := hb6.size; first | omega | (simp at this; omega))); (try have hz26 : w2.heap.size < w6.heap.size := (by have := hb6.size; first | omega | (simp at this; omega))); (try have hz36 : w3.heap.size < w6.heap.size := (by have := hb6.size; first | omega | (simp at this; omega))); (try have hz46 : w4.heap.size < w6.heap.size := (by have := hb6.size; first | omega | (simp at this; omega))); (try have hz56 : w5.heap.size < w6.heap.size := (by have := hb6.size; first | omega | (simp at this; omega))); have hm6 := (by first | exact hm5.but (hw5) hb6 | exact (hm5.later (below1 _ _)).but ((hw5).later (below1 _ _)) hb6))) | (go_at_call 16; first | ((with_reducible refine (HAp.out _ _ _ (D_5.out.but W_5.out hk4).mv hm4.mv).mono ?_); rintro e w5 ⟨ao5, cap5, rfl, hm5, hd5⟩; have hb5 := But.of_below (fb := fb) hd5; have hw5 : Wk w5 fb (((((((((b || o0) || od) || oy) || ox) || ok) || oi) || ob) || or') || om) := (by first | exact (hw4).later hd5 | exact ((hw4).later (below1 _ _)).later hd5); have hk5 : But fb V5 w5 := (by first | exact hk4.trans hb5 | exact (hk4.alloc _).trans hb5); obtain ⟨hc5, hf5⟩ := hb5.cells; have hn5 : ¬ w5.heap.size = fb := (by have := hk5.size; omega); (try have hz05 : V5.heap.size < w5.heap.size := (by have := hb5.size; first | omega | (simp at this; omega))); (try have hz15 : w1.heap.size < w5.heap.size := (by have := hb5.size; first | omega | (simp at this; omega))); (try have hz25 : w2.heap.size < w5.heap.size := (by have := hb5.size; first | omega | (simp at this; omega))); (try have hz35 : w3.heap.size < w5.heap.size := (by have := hb5.size; first | omega | (simp at this; omega))); (try have hz45 : w4.heap.size < w5.heap.size := (by have := hb5.size; first | omega | (simp at this; omega))))))
            refine hK.out _ _ (fun _ => (by with_reducible assumption)) (fun hHeld' => ?_)
            clear hK K hHeld hHeld'
            have hHeld := hk6
            have z21 := hk6.row B21_5.out hg21f
            have zf0 := rowM_frozen z21 0
            have zf1 := rowM_frozen z21 1
            have zf2 := rowM_frozen z21 2
            refine wpAnyG_one (i := 18) rfl (by kernel_rfl) (fun K hK => ?_)
            go_simp
            refine hK.out _ _ (fun h => absurd h (by omega)) (fun _ => ?_)
            clear hK K zf0 zf1 zf2
            refine wpAnyG_done (by kernel_rfl) ?_ _
            clear yP yT yH yK y17 y18 y20 y21
            obtain ⟨V6, hV6⟩ : ∃ V, V = ((w6.setCell ⟨g21, 0, none⟩ (.int .i64 n)).setCell ⟨g21, 1, none⟩ (.int .i64 n)).setCell ⟨g21, 2, none⟩ (.slice ao5 la.length cap5) := ⟨_, rfl⟩
            have hne17 : g17 ≠ g21 := by have := hl17.out; omega
            have hneR : s + 1 + 1 + 1 ≠ g21 := by have := hlR.out; omega
            have h21 : V6.heap[g21]? = some (rowM n n ao5 la.length cap5) := by rw [hV6]; exact storeM z21 _ _ _ _ _
            have h17 : V6.heap[g17]? = some (rowM n 1 a17 lx.length c17) := by rw [hV6]; exact (set3_other hne17 _ _ _).trans (hk6.row B17_5.out hg17)
            have hR6 : V6.heap[s + 1 + 1 + 1]? = some (rowT 0 0 none 0 0 0 0 none 0 0) := by rw [hV6]; exact (set3_other hneR _ _ _).trans (hk6.row BR_5.out (show s + 1 + 1 + 1 ≠ fb by omega))
            have hL6 : MO V6 0 n 1 (.slice a17 lx.length c17) lx := by rw [hV6]; exact (L_5.out.but W_5.out hk6).set3 z21 _ _ _
            have hA6 : MO V6 w4.heap.size n n (.slice ao5 la.length cap5) la := by rw [hV6]; exact hm6.set3 z21 _ _ _
            have hW6 : Wk V6 fb ((((((((((b || o0) || od) || oy) || ox) || ok) || oi) || ob) || or') || om) || oa) := by rw [hV6]; exact hw6.set3 z21 _ _ _
            have hK6 : But fb w V6 := by rw [hV6]; exact (K4.out.trans hk6).set3 (by have := K3.out.size; omega) _ _ _
            have hs6 : s + 1 + 1 + 1 < V6.heap.size := lt_of_block hR6
            rw [← hV6]
            have hneX : g17 ≠ s + 1 + 1 + 1 := fun he => by rw [he, hR6] at h17; simp [rowM, rowT] at h17
            have HRR := Lib.hid hR6
            have HMd : Hid (MV V6.drew n n (.slice ao5 la.length cap5) la) := hA6.mv.later (below_drew _)
            have HL6 := Lib.hid hL6
            have HW6 := Lib.hid hW6
            have HK6 := Lib.hid hK6
            have yX := rowM_but (f := s + 1 + 1 + 1) h17 hneX
            have yP := rowM_but (f := s + 1 + 1 + 1) h21 (by omega)
            clear hV6 hR6 hL6 hA6 hW6 hK6 h17 h21 z21 hw1 hw2 hw3 hw4 hw5 hw6 hm1 hm1a hm2 hm3 hm4 hm5 hm6 hk1 hk2 hk3 hk4 hk5 hk6 hb1 hb2 hb3 hb4 hb5 hb6 hc1 hc2 hc3 hc4 hc5 hc6 hf1 hf2 hf3 hf4 hf5 hf6 hHeld HWd BKd BPd MKd hd2 hd3 hd5
            clear HTh HMk HSy HSr HAx HKh HSi HBt HTk HMr HAp B21_5 D_5 W_5 K4 K3 K2 K1 BP_5 BT_5 BH_5 BR_5 BK_5 B17_5 B18_5 B20_5 M_5 L_5 BP_4 BT_4 BH_4 BR_4 BK_4 B17_4 B18_4 B20_4 M_4 L_4 X_4 Pp_4 Hh_4 W_4 I_4
            go_wp2_with fail
            first | (go_region_held3 (fun w' => But (s + 1 + 1 + 1) V6 w') (first | (with_reducible assumption) | (with_reducible exact hkg.setT _ _ _ _ _ _) | exact but_drew _ _) (first | (go_at_call 106; refine (HGd.out _ _ HMd.out).mono ?_; rintro e u1 ⟨ag, cg, rfl, hmg, hdg⟩; have hkg : But (s + 1 + 1 + 1) V6 u1 := (but_drew _ _).trans (But.of_below hdg); have hr1 := block_later (show V6.drew.heap[s + 1 + 1 + 1]? = _ from HRR.out) hdg; have hrc := rowT_cell hr1; have hrf := rowT_frozen hr1))) | fail
            go_wp2_with fail
            refine bodyPost_ret (results_t1 rfl _ _ (s + 1 + 1 + 1) n 1 a17 lx.length c17 n n ag lg.length cg rfl (storeT hr1 _ _ _ _ _ _ _ _ _ _)) rfl ⟨a17, c17, ag, cg, rfl, ?_, ?_, ?_, ?_⟩
            · exact (((HL6.out.later (below_drew _)).later hdg).setT _ _ _ _ _ _ hr1).own.base (Nat.zero_le _)
            · exact (hmg.setT _ _ _ _ _ _ hr1).own.base (Nat.zero_le _)
            · have h := (HW6.out.later (below_drew _)).later hdg
              refine (setT_other _ _ _ _ _ _ (show fb ≠ s + 1 + 1 + 1 by omega)).trans ?_
              unfold Wk at h
              simpa [Bool.or_assoc] using h
            · exact ((HK6.out.drew).trans (But.of_below hdg)).setTn (by omega) _ _ _ _ _ _

end Go.Proofs.Ytijohedhbbddjaa
