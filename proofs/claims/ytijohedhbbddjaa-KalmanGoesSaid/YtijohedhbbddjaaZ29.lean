/- Texts of this claim, part 30: contracts of the functions that the law reaches. -/
import Derived.Test.YtijohedhbbddjaaZ27
import Derived.Test.YtijohedhbbddjaaZ28
namespace Go.Proofs.Ytijohedhbbddjaa
open Go.RowKit

def rowN3 (a b c : Int) : Obj := .cells #[.int .i64 a, .int .i64 b, .int .i64 c] 64 (0, 0)
theorem rowN3_cell {w : World} {g : Nat} {a b c : Int} (h : w.heap[g]? = some (rowN3 a b c)) : w.cell? ⟨g, 0, none⟩ = some (.int .i64 a) ∧ w.cell? ⟨g, 1, none⟩ = some (.int .i64 b) ∧ w.cell? ⟨g, 2, none⟩ = some (.int .i64 c) := by
  unfold rowN3 at h
  exact ⟨by rw [cell_of_row _ _ _ _ _ _ h]; rfl, by rw [cell_of_row _ _ _ _ _ _ h]; rfl, by rw [cell_of_row _ _ _ _ _ _ h]; rfl⟩
theorem trackB_parts {xr xc pr pc : Int} {xs ps : List Int} (h : trackB xr xc xs pr pc ps = true) : ∃ n : Nat, 1 ≤ n ∧ n ≤ 8 ∧ xr = n ∧ xc = 1 ∧ pr = n ∧ pc = n ∧ xs.length = n * 1 ∧ ps.length = n * n := by
  unfold trackB at h
  simp only [Bool.and_eq_true, decide_eq_true_eq] at h
  obtain ⟨h1, h2, rfl, h3, h4, -⟩ := h
  have z1 := rightB_sizes h1
  have z2 := rightB_sizes h2
  subst h3
  subst h4
  obtain ⟨n, rfl⟩ : ∃ n : Nat, pc = n := ⟨pc.toNat, by omega⟩
  refine ⟨n, by omega, by omega, rfl, rfl, rfl, rfl, ?_, ?_⟩
  · have := z1.2.2.2.2; exact_mod_cast this
  · have := z2.2.2.2.2; exact_mod_cast this
theorem rightB_nat {r c : Int} {xs : List Int} (h : rightB r c xs = true) : ∃ i k : Nat, r = i ∧ c = k ∧ i ≤ 8 ∧ k ≤ 8 ∧ xs.length = i * k := by
  have z := rightB_sizes h
  obtain ⟨i, rfl⟩ : ∃ n : Nat, r = n := ⟨r.toNat, by omega⟩
  obtain ⟨k, rfl⟩ : ∃ n : Nat, c = n := ⟨c.toNat, by omega⟩
  refine ⟨i, k, rfl, rfl, by omega, by omega, ?_⟩
  have := z.2.2.2.2; exact_mod_cast this

set_option maxRecDepth 100000 in
set_option maxHeartbeats 8000000 in
theorem kalmanGoes_any (w : World) (xr xc pr pc fr fc qr qc hr hc n0 n1 n2 : Int) (vx vp vf vq vh : Value) (xs ps fs qs hs : List Int) (hx : QS w vx xs) (hp : QS w vp ps) (hf : QS w vf fs) (hq : QS w vq qs) (hh : QS w vh hs)
    (lx : xs.length ≤ 9223372036854775807) (lp : ps.length ≤ 9223372036854775807) (lf : fs.length ≤ 9223372036854775807) (lq : qs.length ≤ 9223372036854775807) (lh : hs.length ≤ 9223372036854775807) :
    Calls Try.prog 10 #[.agg #[.int .i64 xr, .int .i64 xc, vx, .int .i64 pr, .int .i64 pc, vp, .int .i64 fr, .int .i64 fc, vf, .int .i64 qr, .int .i64 qc, vq, .int .i64 hr, .int .i64 hc, vh, .int .i64 n0, .int .i64 n1, .int .i64 n2]] w fun e w' => e = .returned (.bool true) ∧ Below w.heap.size w w' := by
  obtain ⟨ax, cx, rfl, -⟩ := id hx
  obtain ⟨ap, cp, rfl, -⟩ := id hp
  obtain ⟨af, cf, rfl, -⟩ := id hf
  obtain ⟨aq, cq, rfl, -⟩ := id hq
  obtain ⟨ah, ch, rfl, -⟩ := id hh
  have HR5 : Hid (∀ w v v', QS w v xs → QS w v' ps → Calls Try.prog 60 #[.agg #[.int .i64 xr, .int .i64 xc, v, .int .i64 pr, .int .i64 pc, v']] w fun e w' => e = .returned (.bool (trackB xr xc xs pr pc ps)) ∧ Below w.heap.size w w') := fun w v v' h h' => rright5_any w xr xc pr pc v v' xs ps h h' lx lp
  have HRf : Hid (∀ w v, QS w v fs → Calls Try.prog 12 #[.agg #[.int .i64 fr, .int .i64 fc, v]] w fun e w' => e = .returned (.bool (rightB fr fc fs)) ∧ Below w.heap.size w w') := fun w v h => rright_any w fr fc v fs h lf
  have HRq : Hid (∀ w v, QS w v qs → Calls Try.prog 12 #[.agg #[.int .i64 qr, .int .i64 qc, v]] w fun e w' => e = .returned (.bool (rightB qr qc qs)) ∧ Below w.heap.size w w') := fun w v h => rright_any w qr qc v qs h lq
  have HRh : Hid (∀ w v, QS w v hs → Calls Try.prog 12 #[.agg #[.int .i64 hr, .int .i64 hc, v]] w fun e w' => e = .returned (.bool (rightB hr hc hs)) ∧ Below w.heap.size w w') := fun w v h => rright_any w hr hc v hs h lh
  have kt := fun h => @trackB_parts xr xc pr pc xs ps h
  have kf := fun h => @rightB_nat fr fc fs h
  have kq := fun h => @rightB_nat qr qc qs h
  have kh := fun h => @rightB_nat hr hc hs h
  obtain ⟨ct, hct⟩ : ∃ c, trackB xr xc xs pr pc ps = c := ⟨_, rfl⟩
  obtain ⟨cf', hcf⟩ : ∃ c, rightB fr fc fs = c := ⟨_, rfl⟩
  obtain ⟨cq', hcq⟩ : ∃ c, rightB qr qc qs = c := ⟨_, rfl⟩
  obtain ⟨ch', hch⟩ : ∃ c, rightB hr hc hs = c := ⟨_, rfl⟩
  rw [hct] at HR5 kt
  rw [hcf] at HRf kf
  rw [hcq] at HRq kq
  rw [hch] at HRh kh
  have KT := Lib.hid kt
  have KF := Lib.hid kf
  have KQ := Lib.hid kq
  have KH := Lib.hid kh
  clear hct hcf hcq hch kt kf kq kh lx lp lf lq lh
  obtain ⟨s, hsz⟩ : ∃ s, w.heap.size = s := ⟨_, rfl⟩
  go_enter Try.func10, Try.ntmps10
  go_upto_region 6 with fail
  obtain ⟨V, hV⟩ : ∃ V, V = (((((w.alloc (.cells #[.int .i64 xr, .int .i64 xc, .slice ax xs.length cx, .int .i64 pr, .int .i64 pc, .slice ap ps.length cp, .int .i64 fr, .int .i64 fc, .slice af fs.length cf, .int .i64 qr, .int .i64 qc, .slice aq qs.length cq, .int .i64 hr, .int .i64 hc, .slice ah hs.length ch, .int .i64 n0, .int .i64 n1, .int .i64 n2] 73)).alloc (rowT xr xc ax xs.length cx pr pc ap ps.length cp)).alloc (rowM fr fc af fs.length cf)).alloc (rowM qr qc aq qs.length cq)).alloc (rowM hr hc ah hs.length ch)).alloc (rowN3 n0 n1 n2) := ⟨_, rfl⟩
  have hbV : Below w.heap.size w V := by rw [hV]; exact (((((below1 _ _).alloc (by simp) _).alloc (by simp; omega) _).alloc (by simp; omega) _).alloc (by simp; omega) _).alloc (by simp; omega) _
  have b1 : V.heap[s + 1]? = some (rowT xr xc ax xs.length cx pr pc ap ps.length cp) := by rw [hV, heap_old _ _ _ (by simp; omega), heap_old _ _ _ (by simp; omega), heap_old _ _ _ (by simp; omega), heap_old _ _ _ (by simp; omega)]; exact heap_at _ _ _ (by simp; omega)
  have b2 : V.heap[s + 1 + 1]? = some (rowM fr fc af fs.length cf) := by rw [hV, heap_old _ _ _ (by simp; omega), heap_old _ _ _ (by simp; omega), heap_old _ _ _ (by simp; omega)]; exact heap_at _ _ _ (by simp; omega)
  have b3 : V.heap[s + 1 + 1 + 1]? = some (rowM qr qc aq qs.length cq) := by rw [hV, heap_old _ _ _ (by simp; omega), heap_old _ _ _ (by simp; omega)]; exact heap_at _ _ _ (by simp; omega)
  have b4 : V.heap[s + 1 + 1 + 1 + 1]? = some (rowM hr hc ah hs.length ch) := by rw [hV, heap_old _ _ _ (by simp; omega)]; exact heap_at _ _ _ (by simp; omega)
  have b5 : V.heap[s + 1 + 1 + 1 + 1 + 1]? = some (rowN3 n0 n1 n2) := by rw [hV]; exact heap_at _ _ _ (by simp; omega)
  unfold rowT rowM rowN3 at hV
  rw [← hV]
  clear hV
  have HX := Lib.hid (hx.later hbV)
  have HP := Lib.hid (hp.later hbV)
  have HF := Lib.hid (hf.later hbV)
  have HQ := Lib.hid (hq.later hbV)
  have HH := Lib.hid (hh.later hbV)
  have HB := Lib.hid hbV
  have d1 := rowT_cell b1
  have d2 := rowM_cell b2
  have d3 := rowM_cell b3
  have d4 := rowM_cell b4
  have r10 := cells_later d1.1
  have r11 := cells_later d1.2.1
  have r12 := cells_later d1.2.2.1
  have r13 := cells_later d1.2.2.2.1
  have r14 := cells_later d1.2.2.2.2.1
  have r15 := cells_later d1.2.2.2.2.2
  have r20 := cells_later d2.1
  have r21 := cells_later d2.2.1
  have r22 := cells_later d2.2.2
  have r30 := cells_later d3.1
  have r31 := cells_later d3.2.1
  have r32 := cells_later d3.2.2
  have r40 := cells_later d4.1
  have r41 := cells_later d4.2.1
  have r42 := cells_later d4.2.2
  have B1 := Lib.hid b1
  have B2 := Lib.hid b2
  have B3 := Lib.hid b3
  have B4 := Lib.hid b4
  have B5 := Lib.hid b5
  clear hx hp hf hq hh hbV d1 d2 d3 d4 b1 b2 b3 b4 b5
  go_upto_region 7 with (go_at_call 59; (refine (shown5_any _).mono ?_); rintro e v0 ⟨rfl, hk0⟩)
  cases ct
  · go_wp2_with (first | (go_at_call 60; (refine (HR5.out _ _ _ (HX.out.later hk0) (HP.out.later hk0)).mono ?_); rintro e v1 ⟨rfl, hd1⟩; have hk1 := below_trans2 hk0 hd1) | (go_at_call 12; first | ((with_reducible refine (HRf.out v1 _ (HF.out.later hk1)).mono ?_); rintro e v2 ⟨rfl, hd2⟩; have hk2 := below_trans2 hk1 hd2) | ((with_reducible refine (HRq.out v2 _ (HQ.out.later hk2)).mono ?_); rintro e v3 ⟨rfl, hd3⟩; have hk3 := below_trans2 hk2 hd3) | ((with_reducible refine (HRh.out v3 _ (HH.out.later hk3)).mono ?_); rintro e v4 ⟨rfl, hd4⟩; have hk4 := below_trans2 hk3 hd4)))
    go_ret
    exact ⟨rfl, by have h := below_trans2 HB.out hk1; first | exact h | (rw [← hsz]; exact h)⟩
  cases cf'
  · go_wp2_with (first | (go_at_call 60; (refine (HR5.out _ _ _ (HX.out.later hk0) (HP.out.later hk0)).mono ?_); rintro e v1 ⟨rfl, hd1⟩; have hk1 := below_trans2 hk0 hd1) | (go_at_call 12; first | ((with_reducible refine (HRf.out v1 _ (HF.out.later hk1)).mono ?_); rintro e v2 ⟨rfl, hd2⟩; have hk2 := below_trans2 hk1 hd2) | ((with_reducible refine (HRq.out v2 _ (HQ.out.later hk2)).mono ?_); rintro e v3 ⟨rfl, hd3⟩; have hk3 := below_trans2 hk2 hd3) | ((with_reducible refine (HRh.out v3 _ (HH.out.later hk3)).mono ?_); rintro e v4 ⟨rfl, hd4⟩; have hk4 := below_trans2 hk3 hd4)))
    go_ret
    exact ⟨rfl, by have h := below_trans2 HB.out hk2; first | exact h | (rw [← hsz]; exact h)⟩
  cases cq'
  · go_wp2_with (first | (go_at_call 60; (refine (HR5.out _ _ _ (HX.out.later hk0) (HP.out.later hk0)).mono ?_); rintro e v1 ⟨rfl, hd1⟩; have hk1 := below_trans2 hk0 hd1) | (go_at_call 12; first | ((with_reducible refine (HRf.out v1 _ (HF.out.later hk1)).mono ?_); rintro e v2 ⟨rfl, hd2⟩; have hk2 := below_trans2 hk1 hd2) | ((with_reducible refine (HRq.out v2 _ (HQ.out.later hk2)).mono ?_); rintro e v3 ⟨rfl, hd3⟩; have hk3 := below_trans2 hk2 hd3) | ((with_reducible refine (HRh.out v3 _ (HH.out.later hk3)).mono ?_); rintro e v4 ⟨rfl, hd4⟩; have hk4 := below_trans2 hk3 hd4)))
    go_ret
    exact ⟨rfl, by have h := below_trans2 HB.out hk3; first | exact h | (rw [← hsz]; exact h)⟩
  cases ch'
  · go_wp2_with (first | (go_at_call 60; (refine (HR5.out _ _ _ (HX.out.later hk0) (HP.out.later hk0)).mono ?_); rintro e v1 ⟨rfl, hd1⟩; have hk1 := below_trans2 hk0 hd1) | (go_at_call 12; first | ((with_reducible refine (HRf.out v1 _ (HF.out.later hk1)).mono ?_); rintro e v2 ⟨rfl, hd2⟩; have hk2 := below_trans2 hk1 hd2) | ((with_reducible refine (HRq.out v2 _ (HQ.out.later hk2)).mono ?_); rintro e v3 ⟨rfl, hd3⟩; have hk3 := below_trans2 hk2 hd3) | ((with_reducible refine (HRh.out v3 _ (HH.out.later hk3)).mono ?_); rintro e v4 ⟨rfl, hd4⟩; have hk4 := below_trans2 hk3 hd4)))
    go_ret
    exact ⟨rfl, by have h := below_trans2 HB.out hk4; first | exact h | (rw [← hsz]; exact h)⟩
  obtain ⟨n, hn1, hn8, rfl, rfl, rfl, rfl, hlx, hlp⟩ := KT.out rfl
  obtain ⟨f1, f2, rfl, rfl, hf1, hf2, hlf⟩ := KF.out rfl
  obtain ⟨q1, q2, rfl, rfl, hq1, hq2, hlq⟩ := KQ.out rfl
  obtain ⟨e1, e2, rfl, rfl, he1, he2, hlh⟩ := KH.out rfl
  have HLx := Lib.hid hlx
  have HLp := Lib.hid hlp
  have HLf := Lib.hid hlf
  have HLq := Lib.hid hlq
  have HLh := Lib.hid hlh
  have hnn := mat_len hn8 hn8
  obtain ⟨P, hP⟩ : ∃ P, predR n f1 f2 q1 q2 xs ps fs qs = P := ⟨_, rfl⟩
  have hPl := @predR_len n f1 f2 q1 q2 xs ps fs qs hn8
  obtain ⟨U, hU⟩ : ∃ P, updR n e1 e2 xs ps hs n0 n1 n2 = P := ⟨_, rfl⟩
  have hUl := @updR_len n e1 e2 xs ps hs n0 n1 n2 hn8 (by omega) (by omega)
  obtain ⟨I, hI⟩ : ∃ P, innR n e1 e2 xs ps hs n0 n1 = P := ⟨_, rfl⟩
  have hpa := fun (w : World) v v' v1 v2 h h1 h2 => predict_all w n v v' xs ps h f1 f2 q1 q2 v1 v2 fs qs h1 h2
  have hpb := fun (w : World) v v' v1 v2 h h1 h2 => rpredict_all w n v v' xs ps h f1 f2 q1 q2 v1 v2 fs qs h1 h2
  have hua := fun (w : World) v v' v1 h h1 => update_all w n v v' xs ps h e1 e2 v1 hs n0 n1 n2 h1 hn1
  have hub := fun (w : World) v v' v1 h h1 => rupdate_all w n v v' xs ps h e1 e2 v1 hs n0 n1 n2 h1 hn1
  have hia := fun (w : World) v v' v1 h h1 => innov_all w n v v' xs ps h e1 e2 v1 hs n0 n1 h1
  have hib := fun (w : World) v v' v1 h h1 => rinnov_all w n v v' xs ps h e1 e2 v1 hs n0 n1 h1
  rw [hP] at hpa hpb hPl
  rw [hU] at hua hub hUl
  rw [hI] at hia hib
  clear hP hU hI hlx hlp hlf hlq hlh KT KF KQ KH
  obtain ⟨Pa, Pb, Pl, Pc, Pd, Pm, Pt, Po, Pe⟩ := P
  obtain ⟨Ua, Ub, Ul, Uc, Ud, Um, Ut, Uo, Ue⟩ := U
  obtain ⟨Iy, Is, Io, Ie⟩ := I
  unfold GivesP GivesTr at hpa hpb
  unfold GivesV GivesU at hua hub
  unfold GivesI at hia hib
  dsimp only at hpa hpb hua hub hia hib hPl hUl
  have HPa := Lib.hid hpa
  have HPb := Lib.hid hpb
  have HUa := Lib.hid hua
  have HUb := Lib.hid hub
  have HIa := Lib.hid hia
  have HIb := Lib.hid hib
  clear hpa hpb hua hub hia hib
  go_upto_region 9 with (first | (go_at_call 60; (refine (HR5.out _ _ _ (HX.out.later hk0) (HP.out.later hk0)).mono ?_); rintro e v1 ⟨rfl, hd1⟩; have hk1 := below_trans2 hk0 hd1) | (go_at_call 12; first | ((with_reducible refine (HRf.out v1 _ (HF.out.later hk1)).mono ?_); rintro e v2 ⟨rfl, hd2⟩; have hk2 := below_trans2 hk1 hd2) | ((with_reducible refine (HRq.out v2 _ (HQ.out.later hk2)).mono ?_); rintro e v3 ⟨rfl, hd3⟩; have hk3 := below_trans2 hk2 hd3) | ((with_reducible refine (HRh.out v3 _ (HH.out.later hk3)).mono ?_); rintro e v4 ⟨rfl, hd4⟩; have hk4 := below_trans2 hk3 hd4)))
  have T4 : Hid (TMV v4 n (.slice ax xs.length cx) (.slice ap ps.length cp) xs ps) := ⟨⟨HX.out.later hk4, HLx.out, hn8, by omega⟩, ⟨HP.out.later hk4, HLp.out, hn8, hn8⟩⟩
  have F4 : Hid (MV v4 f1 f2 (.slice af fs.length cf) fs) := ⟨HF.out.later hk4, HLf.out, hf1, hf2⟩
  have Q4 : Hid (MV v4 q1 q2 (.slice aq qs.length cq) qs) := ⟨HQ.out.later hk4, HLq.out, hq1, hq2⟩
  have H4 : Hid (MV v4 e1 e2 (.slice ah hs.length ch) hs) := ⟨HH.out.later hk4, HLh.out, he1, he2⟩
  have C1 := Lib.hid (block_later B1.out hk4)
  have C2 := Lib.hid (block_later B2.out hk4)
  have C3 := Lib.hid (block_later B3.out hk4)
  have C4 := Lib.hid (block_later B4.out hk4)
  have C5 := Lib.hid (block_later B5.out hk4)
  have W4 := Lib.hid (below_trans2 HB.out hk4)
  clear r10 r11 r12 r13 r14 r15 r20 r21 r22 r30 r31 r32 r40 r41 r42 B1 B2 B3 B4 B5 HX HP HF HQ HH HB hk0 hk1 hk2 hk3 hk4 hd1 hd2 hd3 hd4 HR5 HRf HRq HRh
  have cC1 := rowT_cell C1.out
  have cC2 := rowM_cell C2.out
  have cC3 := rowM_cell C3.out
  go_upto_region 10 with (go_at_call 61; (refine (HPa.out _ _ _ _ _ T4.out F4.out Q4.out).mono ?_); rintro e u ⟨xa, ya, za, ta, rfl, hq1x, hq2x, hd⟩)
  obtain ⟨ga, hg⟩ : ∃ g, g = u.heap.size := ⟨_, rfl⟩
  obtain ⟨v5, hV⟩ : ∃ V, V = u.alloc (rowT Pa Pb xa Pl.length ya Pc Pd za Pm.length ta) := ⟨_, rfl⟩
  have hb : Below v4.heap.size v4 v5 := by rw [hV]; exact below_al hd _
  have Dax : Hid (v5.heap[ga]? = some (rowT Pa Pb xa Pl.length ya Pc Pd za Pm.length ta)) := by show _ = _; rw [hV]; exact heap_at _ _ _ hg
  have Xax : Hid (QS v5 (.slice xa Pl.length ya) Pl) := by rw [hV]; exact hq1x.later (below1 _ _)
  have Yax : Hid (QS v5 (.slice za Pm.length ta) Pm) := by rw [hV]; exact hq2x.later (below1 _ _)
  rw [← hg]
  unfold rowT at hV
  rw [← hV]
  clear hV hg hd hq1x hq2x cC1 cC2 cC3
  have C1x := Lib.hid (block_later C1.out hb)
  have C2x := Lib.hid (block_later C2.out hb)
  have C3x := Lib.hid (block_later C3.out hb)
  have C4x := Lib.hid (block_later C4.out hb)
  have C5x := Lib.hid (block_later C5.out hb)
  have T4x := Lib.hid (T4.out.later hb)
  have F4x := Lib.hid (F4.out.later hb)
  have Q4x := Lib.hid (Q4.out.later hb)
  have H4x := Lib.hid (H4.out.later hb)
  have W4x := Lib.hid (below_trans2 W4.out hb)
  clear C1 C2 C3 C4 C5 T4 F4 Q4 H4 W4
  have C1 := C1x
  clear C1x
  have C2 := C2x
  clear C2x
  have C3 := C3x
  clear C3x
  have C4 := C4x
  clear C4x
  have C5 := C5x
  clear C5x
  have T4 := T4x
  clear T4x
  have F4 := F4x
  clear F4x
  have Q4 := Q4x
  clear Q4x
  have H4 := H4x
  clear H4x
  have W4 := W4x
  clear W4x hb
  have Da := Dax
  have Xa := Xax
  have Ya := Yax
  clear Dax Xax Yax
  have cC1 := rowT_cell C1.out
  have cC2 := rowM_cell C2.out
  have cC3 := rowM_cell C3.out
  go_upto_region 11 with (go_at_call 62; (refine (HPb.out _ _ _ _ _ T4.out F4.out Q4.out).mono ?_); rintro e u ⟨xb, yb, zb, tb, rfl, hq1x, hq2x, hd⟩)
  obtain ⟨gb, hg⟩ : ∃ g, g = u.heap.size := ⟨_, rfl⟩
  obtain ⟨v6, hV⟩ : ∃ V, V = u.alloc (rowT Pa Pb xb Pl.length yb Pc Pd zb Pm.length tb) := ⟨_, rfl⟩
  have hb : Below v5.heap.size v5 v6 := by rw [hV]; exact below_al hd _
  have Dbx : Hid (v6.heap[gb]? = some (rowT Pa Pb xb Pl.length yb Pc Pd zb Pm.length tb)) := by show _ = _; rw [hV]; exact heap_at _ _ _ hg
  have Xbx : Hid (QS v6 (.slice xb Pl.length yb) Pl) := by rw [hV]; exact hq1x.later (below1 _ _)
  have Ybx : Hid (QS v6 (.slice zb Pm.length tb) Pm) := by rw [hV]; exact hq2x.later (below1 _ _)
  rw [← hg]
  unfold rowT at hV
  rw [← hV]
  clear hV hg hd hq1x hq2x cC1 cC2 cC3
  have C1x := Lib.hid (block_later C1.out hb)
  have C4x := Lib.hid (block_later C4.out hb)
  have C5x := Lib.hid (block_later C5.out hb)
  have T4x := Lib.hid (T4.out.later hb)
  have H4x := Lib.hid (H4.out.later hb)
  have Dax := Lib.hid (block_later Da.out hb)
  have Xax := Lib.hid (Xa.out.later hb)
  have Yax := Lib.hid (Ya.out.later hb)
  have W4x := Lib.hid (below_trans2 W4.out hb)
  clear C1 C2 C3 C4 C5 T4 F4 Q4 H4 Da Xa Ya W4
  have C1 := C1x
  clear C1x
  have C4 := C4x
  clear C4x
  have C5 := C5x
  clear C5x
  have T4 := T4x
  clear T4x
  have H4 := H4x
  clear H4x
  have Da := Dax
  clear Dax
  have Xa := Xax
  clear Xax
  have Ya := Yax
  clear Yax
  have W4 := W4x
  clear W4x hb
  have Db := Dbx
  have Xb := Xbx
  have Yb := Ybx
  clear Dbx Xbx Ybx
  have cC1 := rowT_cell C1.out
  have cC4 := rowM_cell C4.out
  have cC5 := rowN3_cell C5.out
  go_upto_region 12 with (go_at_call 63; (refine (HUa.out _ _ _ _ T4.out H4.out).mono ?_); rintro e u ⟨xc, yc, zc, tc, rfl, hq1x, hq2x, hd⟩)
  obtain ⟨gc, hg⟩ : ∃ g, g = u.heap.size := ⟨_, rfl⟩
  obtain ⟨v7, hV⟩ : ∃ V, V = u.alloc (rowT Ua Ub xc Ul.length yc Uc Ud zc Um.length tc) := ⟨_, rfl⟩
  have hb : Below v6.heap.size v6 v7 := by rw [hV]; exact below_al hd _
  have Dcx : Hid (v7.heap[gc]? = some (rowT Ua Ub xc Ul.length yc Uc Ud zc Um.length tc)) := by show _ = _; rw [hV]; exact heap_at _ _ _ hg
  have Xcx : Hid (QS v7 (.slice xc Ul.length yc) Ul) := by rw [hV]; exact hq1x.later (below1 _ _)
  have Ycx : Hid (QS v7 (.slice zc Um.length tc) Um) := by rw [hV]; exact hq2x.later (below1 _ _)
  rw [← hg]
  unfold rowT at hV
  rw [← hV]
  clear hV hg hd hq1x hq2x cC1 cC4 cC5
  have C1x := Lib.hid (block_later C1.out hb)
  have C4x := Lib.hid (block_later C4.out hb)
  have C5x := Lib.hid (block_later C5.out hb)
  have T4x := Lib.hid (T4.out.later hb)
  have H4x := Lib.hid (H4.out.later hb)
  have Dax := Lib.hid (block_later Da.out hb)
  have Xax := Lib.hid (Xa.out.later hb)
  have Yax := Lib.hid (Ya.out.later hb)
  have Dbx := Lib.hid (block_later Db.out hb)
  have Xbx := Lib.hid (Xb.out.later hb)
  have Ybx := Lib.hid (Yb.out.later hb)
  have W4x := Lib.hid (below_trans2 W4.out hb)
  clear C1 C4 C5 T4 H4 Da Xa Ya Db Xb Yb W4
  have C1 := C1x
  clear C1x
  have C4 := C4x
  clear C4x
  have C5 := C5x
  clear C5x
  have T4 := T4x
  clear T4x
  have H4 := H4x
  clear H4x
  have Da := Dax
  clear Dax
  have Xa := Xax
  clear Xax
  have Ya := Yax
  clear Yax
  have Db := Dbx
  clear Dbx
  have Xb := Xbx
  clear Xbx
  have Yb := Ybx
  clear Ybx
  have W4 := W4x
  clear W4x hb
  have Dc := Dcx
  have Xc := Xcx
  have Yc := Ycx
  clear Dcx Xcx Ycx
  have cC1 := rowT_cell C1.out
  have cC4 := rowM_cell C4.out
  have cC5 := rowN3_cell C5.out
  go_upto_region 13 with (go_at_call 64; (refine (HUb.out _ _ _ _ T4.out H4.out).mono ?_); rintro e u ⟨xd, yd, zd, td, rfl, hq1x, hq2x, hd⟩)
  obtain ⟨gd, hg⟩ : ∃ g, g = u.heap.size := ⟨_, rfl⟩
  obtain ⟨v8, hV⟩ : ∃ V, V = u.alloc (rowT Ua Ub xd Ul.length yd Uc Ud zd Um.length td) := ⟨_, rfl⟩
  have hb : Below v7.heap.size v7 v8 := by rw [hV]; exact below_al hd _
  have Ddx : Hid (v8.heap[gd]? = some (rowT Ua Ub xd Ul.length yd Uc Ud zd Um.length td)) := by show _ = _; rw [hV]; exact heap_at _ _ _ hg
  have Xdx : Hid (QS v8 (.slice xd Ul.length yd) Ul) := by rw [hV]; exact hq1x.later (below1 _ _)
  have Ydx : Hid (QS v8 (.slice zd Um.length td) Um) := by rw [hV]; exact hq2x.later (below1 _ _)
  rw [← hg]
  unfold rowT at hV
  rw [← hV]
  clear hV hg hd hq1x hq2x cC1 cC4 cC5
  have C1x := Lib.hid (block_later C1.out hb)
  have C4x := Lib.hid (block_later C4.out hb)
  have C5x := Lib.hid (block_later C5.out hb)
  have T4x := Lib.hid (T4.out.later hb)
  have H4x := Lib.hid (H4.out.later hb)
  have Dax := Lib.hid (block_later Da.out hb)
  have Xax := Lib.hid (Xa.out.later hb)
  have Yax := Lib.hid (Ya.out.later hb)
  have Dbx := Lib.hid (block_later Db.out hb)
  have Xbx := Lib.hid (Xb.out.later hb)
  have Ybx := Lib.hid (Yb.out.later hb)
  have Dcx := Lib.hid (block_later Dc.out hb)
  have Xcx := Lib.hid (Xc.out.later hb)
  have Ycx := Lib.hid (Yc.out.later hb)
  have W4x := Lib.hid (below_trans2 W4.out hb)
  clear C1 C4 C5 T4 H4 Da Xa Ya Db Xb Yb Dc Xc Yc W4
  have C1 := C1x
  clear C1x
  have C4 := C4x
  clear C4x
  have C5 := C5x
  clear C5x
  have T4 := T4x
  clear T4x
  have H4 := H4x
  clear H4x
  have Da := Dax
  clear Dax
  have Xa := Xax
  clear Xax
  have Ya := Yax
  clear Yax
  have Db := Dbx
  clear Dbx
  have Xb := Xbx
  clear Xbx
  have Yb := Ybx
  clear Ybx
  have Dc := Dcx
  clear Dcx
  have Xc := Xcx
  clear Xcx
  have Yc := Ycx
  clear Ycx
  have W4 := W4x
  clear W4x hb
  have Dd := Ddx
  have Xd := Xdx
  have Yd := Ydx
  clear Ddx Xdx Ydx
  have cC1 := rowT_cell C1.out
  have cC4 := rowM_cell C4.out
  have cC5 := rowN3_cell C5.out
  go_upto_region 14 with (go_at_call 65; (refine (HIa.out _ _ _ _ T4.out H4.out).mono ?_); rintro e v9 ⟨rfl, hb⟩)
  clear cC1 cC4 cC5
  have C1x := Lib.hid (block_later C1.out hb)
  have C4x := Lib.hid (block_later C4.out hb)
  have C5x := Lib.hid (block_later C5.out hb)
  have T4x := Lib.hid (T4.out.later hb)
  have H4x := Lib.hid (H4.out.later hb)
  have Dax := Lib.hid (block_later Da.out hb)
  have Xax := Lib.hid (Xa.out.later hb)
  have Yax := Lib.hid (Ya.out.later hb)
  have Dbx := Lib.hid (block_later Db.out hb)
  have Xbx := Lib.hid (Xb.out.later hb)
  have Ybx := Lib.hid (Yb.out.later hb)
  have Dcx := Lib.hid (block_later Dc.out hb)
  have Xcx := Lib.hid (Xc.out.later hb)
  have Ycx := Lib.hid (Yc.out.later hb)
  have Ddx := Lib.hid (block_later Dd.out hb)
  have Xdx := Lib.hid (Xd.out.later hb)
  have Ydx := Lib.hid (Yd.out.later hb)
  have W4x := Lib.hid (below_trans2 W4.out hb)
  clear C1 C4 C5 T4 H4 Da Xa Ya Db Xb Yb Dc Xc Yc Dd Xd Yd W4
  have C1 := C1x
  clear C1x
  have C4 := C4x
  clear C4x
  have C5 := C5x
  clear C5x
  have T4 := T4x
  clear T4x
  have H4 := H4x
  clear H4x
  have Da := Dax
  clear Dax
  have Xa := Xax
  clear Xax
  have Ya := Yax
  clear Yax
  have Db := Dbx
  clear Dbx
  have Xb := Xbx
  clear Xbx
  have Yb := Ybx
  clear Ybx
  have Dc := Dcx
  clear Dcx
  have Xc := Xcx
  clear Xcx
  have Yc := Ycx
  clear Ycx
  have Dd := Ddx
  clear Ddx
  have Xd := Xdx
  clear Xdx
  have Yd := Ydx
  clear Ydx
  have W4 := W4x
  clear W4x hb
  have cC1 := rowT_cell C1.out
  have cC4 := rowM_cell C4.out
  have cC5 := rowN3_cell C5.out
  go_upto_region 15 with (go_at_call 66; (refine (HIb.out _ _ _ _ T4.out H4.out).mono ?_); rintro e v10 ⟨rfl, hb⟩)
  clear cC1 cC4 cC5
  have Dax := Lib.hid (block_later Da.out hb)
  have Xax := Lib.hid (Xa.out.later hb)
  have Yax := Lib.hid (Ya.out.later hb)
  have Dbx := Lib.hid (block_later Db.out hb)
  have Xbx := Lib.hid (Xb.out.later hb)
  have Ybx := Lib.hid (Yb.out.later hb)
  have Dcx := Lib.hid (block_later Dc.out hb)
  have Xcx := Lib.hid (Xc.out.later hb)
  have Ycx := Lib.hid (Yc.out.later hb)
  have Ddx := Lib.hid (block_later Dd.out hb)
  have Xdx := Lib.hid (Xd.out.later hb)
  have Ydx := Lib.hid (Yd.out.later hb)
  have W4x := Lib.hid (below_trans2 W4.out hb)
  clear C1 C4 C5 T4 H4 Da Xa Ya Db Xb Yb Dc Xc Yc Dd Xd Yd W4
  have Da := Dax
  clear Dax
  have Xa := Xax
  clear Xax
  have Ya := Yax
  clear Yax
  have Db := Dbx
  clear Dbx
  have Xb := Xbx
  clear Xbx
  have Yb := Ybx
  clear Ybx
  have Dc := Dcx
  clear Dcx
  have Xc := Xcx
  clear Xcx
  have Yc := Ycx
  clear Ycx
  have Dd := Ddx
  clear Ddx
  have Xd := Xdx
  clear Xdx
  have Yd := Ydx
  clear Ydx
  have W4 := W4x
  clear W4x hb
  have p0 := fun (w : World) a1 a2 a3 a4 c1 c2 c3 c4 h1 h2 h3 h4 => rsame5_any w Pa Pb Pc Pd a1 a2 a3 a4 c1 c2 c3 c4 Pl Pm h1 h2 h3 h4 (by omega) (by omega)
  have u0 := fun (w : World) a1 a2 a3 a4 c1 c2 c3 c4 h1 h2 h3 h4 => rsame5_any w Ua Ub Uc Ud a1 a2 a3 a4 c1 c2 c3 c4 Ul Um h1 h2 h3 h4 (by omega) (by omega)
  have SP := Lib.hid p0
  have SU := Lib.hid u0
  clear p0 u0 HPa HPb HUa HUb HIa HIb
  have cDa := rowT_cell Da.out
  have cDb := rowT_cell Db.out
  go_upto_region 16 with (go_at_call 67; (refine (SP.out _ _ _ _ _ _ _ _ _ Xa.out Xb.out Ya.out Yb.out).mono ?_); rintro e w1 ⟨rfl, hb⟩)
  clear cDa cDb
  have Dcx := Lib.hid (block_later Dc.out hb)
  have Xcx := Lib.hid (Xc.out.later hb)
  have Ycx := Lib.hid (Yc.out.later hb)
  have Ddx := Lib.hid (block_later Dd.out hb)
  have Xdx := Lib.hid (Xd.out.later hb)
  have Ydx := Lib.hid (Yd.out.later hb)
  have W4x := Lib.hid (below_trans2 W4.out hb)
  clear Da Xa Ya Db Xb Yb Dc Xc Yc Dd Xd Yd W4
  have Dc := Dcx
  clear Dcx
  have Xc := Xcx
  clear Xcx
  have Yc := Ycx
  clear Ycx
  have Dd := Ddx
  clear Ddx
  have Xd := Xdx
  clear Xdx
  have Yd := Ydx
  clear Ydx
  have W4 := W4x
  clear W4x hb
  have cDc := rowT_cell Dc.out
  have cDd := rowT_cell Dd.out
  go_wp2_with (go_at_call 67; (refine (SU.out _ _ _ _ _ _ _ _ _ Xc.out Xd.out Yc.out Yd.out).mono ?_); rintro e w2 ⟨rfl, hb⟩)
  go_ret
  exact ⟨by simp, by have h := below_trans2 W4.out hb; first | exact h | (rw [← hsz]; exact h)⟩

end Go.Proofs.Ytijohedhbbddjaa
