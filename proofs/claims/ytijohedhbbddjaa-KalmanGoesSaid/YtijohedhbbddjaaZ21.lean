/- Texts of this claim, part 22: contracts of the functions that the law reaches. -/
import Derived.Test.YtijohedhbbddjaaZ18
import Derived.Test.YtijohedhbbddjaaZ20
namespace Go.Proofs.Ytijohedhbbddjaa
open Go.RowKit

def rowM (r c : Int) (ao : Option Addr) (n cap : Nat) : Obj := .cells #[.int .i64 r, .int .i64 c, .slice ao n cap] 24 (0, 0)
theorem rowM_cell {w : World} {g : Nat} {r c : Int} {ao : Option Addr} {n cap : Nat} (h : w.heap[g]? = some (rowM r c ao n cap)) : w.cell? ⟨g, 0, none⟩ = some (.int .i64 r) ∧ w.cell? ⟨g, 1, none⟩ = some (.int .i64 c) ∧ w.cell? ⟨g, 2, none⟩ = some (.slice ao n cap) := by
  unfold rowM at h
  exact ⟨by rw [cell_of_row _ _ _ _ _ _ h]; rfl, by rw [cell_of_row _ _ _ _ _ _ h]; rfl, by rw [cell_of_row _ _ _ _ _ _ h]; rfl⟩
theorem rowM_frozen {w : World} {g : Nat} {r c : Int} {ao : Option Addr} {n cap : Nat} (h : w.heap[g]? = some (rowM r c ao n cap)) (i : Nat) : w.frozen? ⟨g, i, none⟩ = false := by
  unfold rowM at h
  exact frozen_of_row _ _ i _ _ h
theorem rowM_but2 {w : World} {f o g : Nat} {r c : Int} {ao : Option Addr} {n cap : Nat} (h : w.heap[g]? = some (rowM r c ao n cap)) (hf : g ≠ f) (ho : g ≠ o) :
    (∀ w', But2 f o w w' → w'.cell? ⟨g, 0, none⟩ = some (.int .i64 r)) ∧ (∀ w', But2 f o w w' → w'.cell? ⟨g, 1, none⟩ = some (.int .i64 c)) ∧ (∀ w', But2 f o w w' → w'.cell? ⟨g, 2, none⟩ = some (.slice ao n cap)) :=
  ⟨cells_but2 (rowM_cell h).1 hf ho, cells_but2 (rowM_cell h).2.1 hf ho, cells_but2 (rowM_cell h).2.2 hf ho⟩
theorem But2.set3 {f o : Nat} {V w : World} (h : But2 f o V w) (x y z : Value) : But2 f o V (((w.setCell ⟨o, 0, none⟩ x).setCell ⟨o, 1, none⟩ y).setCell ⟨o, 2, none⟩ z) := ((h.set 0 x).set 1 y).set 2 z
theorem results_m {fn : Func} {p : Tmp} (h : fn.results = #[.cell p 24]) (tmps : Array Value) (w : World) (g : Nat) (r c : Int) (ao : Option Addr) (n cap : Nat) (hp : tmps.getD p undef = .pointer (some ⟨g, 0, none⟩)) (hg : w.heap[g]? = some (rowM r c ao n cap)) :
    (results fn tmps).run Try.prog w = .ok (.agg #[.int .i64 r, .int .i64 c, .slice ao n cap]) w := by
  unfold rowM at hg
  exact results_row h tmps w g _ _ _ _ hp hg Try.underlying24 rfl (by kernel_rfl)
theorem storeM {w : World} {g : Nat} {r c : Int} {ao : Option Addr} {n cap : Nat} (hg : w.heap[g]? = some (rowM r c ao n cap)) (r' c' : Int) (ao' : Option Addr) (n' cap' : Nat) : (((w.setCell ⟨g, 0, none⟩ (.int .i64 r')).setCell ⟨g, 1, none⟩ (.int .i64 c')).setCell ⟨g, 2, none⟩ (.slice ao' n' cap')).heap[g]? = some (rowM r' c' ao' n' cap') := by
  unfold rowM at hg ⊢
  exact heap_store3 _ _ _ _ _ _ _ _ _ hg

set_option maxRecDepth 100000 in
set_option maxHeartbeats 2000000 in
theorem between_any (w : World) (fb : Nat) (b : Bool) (r n : Nat) (va vp : Value) (xs ps : List Int) (hw : Wk w fb b) (ha : MV w r n va xs) (hp : MV w n n vp ps) :
    Calls Try.prog 105 #[.pointer (some ⟨fb, 0, none⟩), .agg #[.int .i64 r, .int .i64 n, va], .agg #[.int .i64 n, .int .i64 n, vp]] w (GivesW fb r r (btwL xs ps r n) (b || btwO xs ps r n) w) := by
  obtain ⟨aa, ca, rfl, -⟩ := id ha.qs
  obtain ⟨ap, cp, rfl, -⟩ := id hp.qs
  have hM1 := fun (w : World) v v' h h' => mmul_own w r n n v v' xs ps h h'
  have hT := fun (w : World) v h => trans_own w r n v xs h
  unfold btwL btwO
  obtain ⟨l1, hl1⟩ : ∃ l, mulL xs ps r n n = l := ⟨_, rfl⟩
  obtain ⟨o1, ho1⟩ : ∃ l, mulLO xs ps r n n = l := ⟨_, rfl⟩
  obtain ⟨lt, hlt⟩ : ∃ l, transL xs r n = l := ⟨_, rfl⟩
  rw [hl1, ho1] at hM1
  rw [hlt] at hT
  rw [hl1, ho1, hlt]
  have hM2 := fun (w : World) v v' h h' => mmul_own w r n r v v' l1 lt h h'
  obtain ⟨l2, hl2⟩ : ∃ l, mulL l1 lt r n r = l := ⟨_, rfl⟩
  obtain ⟨o2, ho2⟩ : ∃ l, mulLO l1 lt r n r = l := ⟨_, rfl⟩
  rw [hl2, ho2] at hM2
  rw [hl2, ho2]
  have HM1 := Lib.hid hM1
  have HM2 := Lib.hid hM2
  have HTr := Lib.hid hT
  clear hl1 ho1 hlt hl2 ho2 hM1 hM2 hT
  obtain ⟨s, hs⟩ : ∃ s, w.heap.size = s := ⟨_, rfl⟩
  have hfs := hw.lt
  obtain ⟨V, hV⟩ : ∃ V, V = ((w.alloc (rowM r n aa xs.length ca)).alloc (rowM n n ap ps.length cp)).alloc (rowM 0 0 none 0 0) := ⟨_, rfl⟩
  have hbV : Below w.heap.size w V := by rw [hV]; exact below3 _ _ _ _
  have HKV := Lib.hid (But.of_below (fb := fb) hbV)
  have HWV := Lib.hid (hw.later hbV)
  have HWd : Hid (Wk V.drew fb b) := HWV.out
  have HA := Lib.hid (ha.later hbV)
  have HP := Lib.hid (hp.later hbV)
  have HAd := Lib.hid (HA.out.later (below_drew V))
  have HPd := Lib.hid (HP.out.later (below_drew V))
  have h0 : V.heap[s]? = some (rowM r n aa xs.length ca) := by rw [hV, heap_old _ _ _ (by simp; omega), heap_old _ _ _ (by simp; omega)]; exact heap_at _ _ _ hs.symm
  have h1 : V.heap[s + 1]? = some (rowM n n ap ps.length cp) := by rw [hV, heap_old _ _ _ (by simp; omega)]; exact heap_at _ _ _ (by simp; omega)
  have h2 : V.heap[s + 1 + 1]? = some (rowM 0 0 none 0 0) := by rw [hV]; exact heap_at _ _ _ (by simp; omega)
  have ra := rowM_but2 (f := fb) (o := s + 1 + 1) h0 (by omega) (by omega)
  have rp := rowM_but2 (f := fb) (o := s + 1 + 1) h1 (by omega) (by omega)
  have HR := Lib.hid h2
  clear ha hp hw hbV h0 h1 h2
  go_enter Try.func105, Try.ntmps105
  go_upto_region 1 with fail
  unfold rowM at hV
  rw [← hV]
  clear hV
  first | (go_region_held3 (fun w' => But2 fb (s + 1 + 1) V w') (first | assumption | exact But2.of (but_drew _ _) | exact But2.of (by assumption) | exact (But2.of hk5).set3 _ _ _) (first | (go_at_call 20; first | ((with_reducible refine (HM1.out _ _ _ HAd.out HPd.out).mono ?_); rintro e w1 ⟨ao1, cap1, rfl, hm1, hd1⟩; have hk1 : But fb V w1 := (but_drew _ _).trans (But.of_below hd1); have hw1 := HWd.out.later hd1) | ((with_reducible refine (HM2.out _ _ _ hm3.mv hm4.mv).mono ?_); rintro e w4 ⟨ao4, cap4, rfl, hm5, hd4⟩; have hk4 : But fb V w4 := hk3.trans (But.of_below hd4); have hw4 := hw3.later hd4)) | (go_at_call 104; first | ((with_reducible refine (wmat_any _ fb b o1 r n 0 ao1 l1.length cap1 hw1).mono ?_); rintro e w2 ⟨rfl, hw2, hb2⟩; have hk2 : But fb V w2 := hk1.trans hb2; have hm2 := hm1.but hw1 hb2) | ((with_reducible refine (wmat_any _ fb (b || o1) o2 r r 0 ao4 l2.length cap4 hw4).mono ?_); rintro e w5 ⟨rfl, hw5, hb5⟩; have hk5 : But fb V w5 := hk4.trans hb5; have hm6 := hm5.but hw4 hb5; have hor := hk5.row HR.out (show s + 1 + 1 ≠ fb by omega); have hrc := rowM_cell hor; have hrf := rowM_frozen hor)) | (go_at_call 36; refine (HTr.out _ _ (HA.out.but HWV.out hk2)).mono ?_; rintro e w3 ⟨ao3, cap3, rfl, hm4, hd3⟩; have hk3 : But fb V w3 := hk2.trans (But.of_below hd3); have hw3 := hw2.later hd3; have hm3 := hm2.later hd3))) | fail
  go_wp2_with fail
  refine bodyPost_ret (results_m rfl _ _ (s + 1 + 1) r r ao4 l2.length cap4 rfl (storeM hor _ _ _ _ _)) rfl ⟨ao4, cap4, rfl, ?_, ?_, ?_⟩
  · exact (hm6.set3 hor _ _ _).low (by omega)
  · have h := hw5.set3 hor (.int .i64 r) (.int .i64 r) (.slice ao4 l2.length cap4)
    simpa [Bool.or_assoc] using h
  · exact (HKV.out.trans hk5).set3 (by omega) _ _ _

end Go.Proofs.Ytijohedhbbddjaa

namespace Go.Proofs.Ytijohedhbbddjaa
open Go.RowKit

def evenL (ps : List Int) (n : Nat) : List Int := eachL (fun x y => half1 (x + y)) ps (transL ps n n) n n
def goodF (ps : List Int) (n i : Nat) (j : Nat) : Int := if j / n = j % n ∧ j % n < i then max ((evenL ps n).getD j 0) 0 else (evenL ps n).getD j 0
def goodL (ps : List Int) (n : Nat) : List Int := rowF (goodF ps n n) (n * n)
theorem evenL_len (ps : List Int) (n : Nat) : (evenL ps n).length = n * n := by unfold evenL eachL; rw [tab_length]
theorem goodF_zero (ps : List Int) (n : Nat) : rowF (goodF ps n 0) (n * n) = evenL ps n := by
  have hl := evenL_len ps n
  apply List.ext_getElem?
  intro j
  unfold rowF
  by_cases hj : j < n * n
  · simp [goodF, hj, hl]
  · rw [List.getElem?_eq_none (by simp; omega), List.getElem?_eq_none (by omega)]
theorem goodF_at {n i : Nat} (hi : i < n) : (i * n + i) / n = i ∧ (i * n + i) % n = i :=
  ⟨by rw [Nat.mul_comm, Nat.mul_add_div (by omega), Nat.div_eq_of_lt hi]; rfl, by rw [Nat.mul_comm, Nat.mul_add_mod, Nat.mod_eq_of_lt hi]⟩
theorem goodF_here (ps : List Int) {n i : Nat} (hi : i < n) : goodF ps n i (i * n + i) = (evenL ps n).getD (i * n + i) 0 := by
  unfold goodF
  rw [if_neg (by rw [(goodF_at hi).2]; omega)]
theorem goodF_step (ps : List Int) {n i : Nat} (hi : i < n) : (rowF (goodF ps n i) (n * n)).set (i * n + i) (max (goodF ps n i (i * n + i)) 0) = rowF (goodF ps n (i + 1)) (n * n) := by
  rw [goodF_here ps hi, rowF_set]
  refine rowF_ext fun j _ => ?_
  by_cases hj : j = i * n + i
  · subst hj
    rw [if_pos rfl]
    unfold goodF
    rw [(goodF_at hi).1, (goodF_at hi).2, if_pos ⟨rfl, by omega⟩]
  · rw [if_neg hj]
    unfold goodF
    by_cases h1 : j / n = j % n
    · have hne : j % n ≠ i := fun h => hj (by have := Nat.div_add_mod j n; rw [h1, h, Nat.mul_comm] at this; omega)
      by_cases h2 : j % n < i
      · rw [if_pos ⟨h1, h2⟩, if_pos ⟨h1, by omega⟩]
      · rw [if_neg (fun h => h2 h.2), if_neg (fun h => by omega)]
    · rw [if_neg (fun h => h1 h.1), if_neg (fun h => h1 h.1)]
theorem goodL_len (ps : List Int) (n : Nat) : (goodL ps n).length = n * n := by simp [goodL, rowF]

set_option maxRecDepth 100000 in
set_option maxHeartbeats 2000000 in
theorem good_any (w : World) (n : Nat) (v : Value) (ps : List Int) (h : MV w n n v ps) (hq : InQ ps) :
    Calls Try.prog 106 #[.agg #[.int .i64 n, .int .i64 n, v]] w (GivesTO n n (goodL ps n) w) := by
  obtain ⟨ao, cap, hv, -⟩ := id h.qs
  subst hv
  have hn8 := h.hr
  have hnn : n * n ≤ 64 := mat_len hn8 hn8
  have hEv := fun (w : World) v h => even_any w n v ps h hq
  obtain ⟨f, hf⟩ : ∃ f, eachO (fun _ _ => false) ps (transL ps n n) n n = f := ⟨_, rfl⟩
  rw [hf] at hEv
  have HEv : Hid (∀ (w : World) (v : Value), MV w n n v ps → Calls Try.prog 34 #[.agg #[.int .i64 n, .int .i64 n, v]] w fun e w' =>
      ∃ ao cap, e = .returned (.tuple #[.agg #[.int .i64 n, .int .i64 n, .slice ao (n * n) cap], .bool f, .int .i64 0]) ∧ w'.ownsRow w.heap.size 25 1 (.slice ao (n * n) cap) (n * n) ((evenL ps n).map (Value.int .i64)) ∧ Below w.heap.size w w') := hEv
  clear hEv hf hq
  obtain ⟨s, hs⟩ : ∃ s, w.heap.size = s := ⟨_, rfl⟩
  obtain ⟨W0, hW0⟩ : ∃ W, W = (w.alloc (rowM n n ao ps.length cap)).alloc (rowM 0 0 none 0 0) := ⟨_, rfl⟩
  have hB0 : Hid (Below w.heap.size w W0) := by rw [hW0]; exact below2 _ _ _
  have hz0 : s + 1 < W0.heap.size := by rw [hW0]; simp; omega
  have h0 : W0.heap[s]? = some (rowM n n ao ps.length cap) := by rw [hW0, heap_old _ _ _ (by simp; omega)]; exact heap_at _ _ _ hs.symm
  have h1 : W0.heap[s + 1]? = some (rowM 0 0 none 0 0) := by rw [hW0]; exact heap_at _ _ _ (by simp; omega)
  have HV := Lib.hid (h.later hB0.out)
  have hc := rowM_cell h0
  have HR := Lib.hid h1
  clear h h0 h1
  go_enter Try.func106, Try.ntmps106
  go_upto_region 1 with fail
  unfold rowM at hW0
  rw [← hW0]
  clear hW0
  go_upto_region 2 with (go_at_call 34; refine (HEv.out _ _ HV.out).mono ?_; rintro e w1 ⟨ao1, cap1, rfl, hown1, hb1⟩)
  have hI := RowIn.of (r := n) (c := n) hb1 hown1
  obtain ⟨g, hg⟩ : ∃ g, g = w1.heap.size := ⟨_, rfl⟩
  obtain ⟨wr1, hwr1⟩ : ∃ wr, wr = w1.alloc (.cells #[.int .i64 n, .int .i64 n, .slice ao1 (n * n) cap1] 24) := ⟨_, rfl⟩
  rw [← hg, ← hwr1] at hI
  rw [← hg, ← hwr1]
  clear hown1 hb1 hg hwr1 hc
  obtain ⟨p, hp⟩ : ∃ p, n * n = p := ⟨_, rfl⟩
  have HP := Lib.hid hp
  have hgz := goodF_zero ps n
  rw [← hgz] at hI
  rw [hp] at hI hnn ⊢
  have HI1 := Lib.hid hI
  have m1 := cell_of_row _ _ 0 _ _ _ hI.m
  simp only [List.getElem?_toArray, List.getElem?_cons_succ, List.getElem?_cons_zero] at m1
  go_wp2_with fail
  clear hp hgz hI m1
  go_loopg [15] n (fun k iv wr => ∃ i : Nat, i ≤ n ∧ k = n - i ∧ iv = .int .i64 i ∧ RowIn W0 wr g n n p (.slice ao1 p cap1) (rowF (goodF ps n i) p))
  case atStart => exact ⟨0, by omega, by omega, rfl, HI1.out⟩
  case round =>
    clear HI1
    obtain ⟨i, hi, rfl, rfl, hI⟩ := hrel
    have HI := Lib.hid hI
    have hkeep := hI.keep
    clear hI
    by_cases hlt : i < n
    · have hil : (i : Int) < (n : Int) := by omega
      obtain ⟨A0, hA0⟩ : ∃ A0, i * n = A0 := ⟨_, rfl⟩
      obtain ⟨A, hA⟩ : ∃ A, A0 + i = A := ⟨_, rfl⟩
      have hAp : A < p := by rw [← hA, ← hA0, ← HP.out]; have := Nat.mul_le_mul_right n (show i + 1 ≤ n by omega); rw [Nat.add_mul, Nat.one_mul] at this; omega
      obtain ⟨q, cap2, he, hcq, hfq, hset⟩ := HI.out.at hAp
      injection he with he1 he2 he3
      subst he1
      subst he3
      have HS := Lib.hid hset
      have hgd : (rowF (goodF ps n i) p).getD A 0 = goodF ps n i A := rowF_getD _ hAp
      rw [hgd] at hcq
      obtain ⟨x, hx⟩ : ∃ x, goodF ps n i A = x := ⟨_, rfl⟩
      rw [hx] at hcq
      have HX := Lib.hid hx
      have hm1 := cell_of_row _ _ 1 _ _ _ HI.out.m
      have hm2 := HI.out.mcell
      simp only [List.getElem?_toArray, List.getElem?_cons_succ, List.getElem?_cons_zero] at hm1
      have e0 : (i : Int) * (n : Int) = (A0 : Int) := by rw [← hA0]; push_cast; rfl
      have e1 : (A0 : Int) + (i : Int) = (A : Int) := by omega
      have HA : Hid (i * n + i = A) := by show _ = _; rw [hA0, hA]
      have hAi : (A : Int) < (p : Int) := by omega
      have hA3 : (0 : Int) ≤ (A : Int) := by omega
      have wA0 := Lib.hid (IntWalk.i64_in (A0 : Int) (by omega))
      have wA := Lib.hid (IntWalk.i64_in (A : Int) (by omega))
      clear hset he2 hgd hx hA0 hA
      go_wp2_with fail
      have wA0 := wA0.out
      have wA := wA.out
      go_region
      go_wp2_with fail
      go_roundg (n - (i + 1))
      case measure => omega
      case rel =>
        refine ⟨i + 1, by omega, rfl, by go_num, ?_⟩
        have h := (HS.out wr (Below.refl _ _) (max x 0)).later (below_drew _)
        have hst := goodF_step ps hlt
        rw [HP.out, HA.out, HX.out] at hst
        rw [hst] at h
        exact h
    · have hin : i = n := by omega
      subst hin
      have hR := block_later HR.out HI.out.keep
      have t := rowM_cell hR
      have tf := rowM_frozen hR
      have m := rowM_cell (show wr.heap[g]? = some (rowM i i ao1 p cap1) from HI.out.m)
      have ho := HI.out.own
      have HRR := Lib.hid hR
      clear hR
      go_wp2_with fail
      have hgl : rowF (goodF ps i i) p = goodL ps i := by rw [← HP.out]; rfl
      rw [hgl] at ho
      have hl : (goodL ps i).length = p := by rw [goodL_len, HP.out]
      rw [← hl] at ho ⊢
      have hown : Own wr W0.heap.size (.slice ao1 (goodL ps i).length cap1) (goodL ps i) := ho
      refine bodyPost_ret (results_m rfl _ _ (s + 1) i i ao1 (goodL ps i).length cap1 rfl (storeM HRR.out _ _ _ _ _)) rfl ⟨ao1, cap1, rfl, ⟨(hown.set3 HRR.out _ _ _).base ?_, goodL_len ps i, hn8, hn8⟩, ?_⟩
      · have := hB0.out.size; omega
      · exact below_set3 (below_tr2 hkeep hB0.out) (by omega) _ _ _

end Go.Proofs.Ytijohedhbbddjaa

namespace Go.Proofs.Ytijohedhbbddjaa
open Go.RowKit

theorem rowF_set_self (f : Nat → Int) (n k : Nat) : (rowF f n).set k (f k) = rowF f n := by
  rw [rowF_set]
  refine rowF_ext fun j _ => ?_
  by_cases h : j = k
  · rw [if_pos h, h]
  · rw [if_neg h]

set_option maxRecDepth 100000 in
set_option maxHeartbeats 2000000 in
theorem rgood_any (w : World) (n : Nat) (v : Value) (ps : List Int) (h : MV w n n v ps) (hq : InQ ps) :
    Calls Try.prog 108 #[.agg #[.int .i64 n, .int .i64 n, v]] w (GivesTO n n (goodL ps n) w) := by
  obtain ⟨ao, cap, hv, -⟩ := id h.qs
  subst hv
  have hn8 := h.hr
  have hnn : n * n ≤ 64 := mat_len hn8 hn8
  have hEv := fun (w : World) v h => reven3_any w n v ps h hq
  have HEv : Hid (∀ (w : World) (v : Value), MV w n n v ps → Calls Try.prog 35 #[.agg #[.int .i64 n, .int .i64 n, v]] w fun e w' =>
      ∃ ao cap, e = .returned (.tuple #[.agg #[.int .i64 n, .int .i64 n, .slice ao (n * n) cap], .bool false, .int .i64 0]) ∧ w'.ownsRow w.heap.size 25 1 (.slice ao (n * n) cap) (n * n) ((evenL ps n).map (Value.int .i64)) ∧ Below w.heap.size w w') := hEv
  clear hEv hq
  obtain ⟨s, hs⟩ : ∃ s, w.heap.size = s := ⟨_, rfl⟩
  obtain ⟨W0, hW0⟩ : ∃ W, W = (w.alloc (rowM n n ao ps.length cap)).alloc (rowM 0 0 none 0 0) := ⟨_, rfl⟩
  have hB0 : Hid (Below w.heap.size w W0) := by rw [hW0]; exact below2 _ _ _
  have hz0 : s + 1 < W0.heap.size := by rw [hW0]; simp; omega
  have h0 : W0.heap[s]? = some (rowM n n ao ps.length cap) := by rw [hW0, heap_old _ _ _ (by simp; omega)]; exact heap_at _ _ _ hs.symm
  have h1 : W0.heap[s + 1]? = some (rowM 0 0 none 0 0) := by rw [hW0]; exact heap_at _ _ _ (by simp; omega)
  have HV := Lib.hid (h.later hB0.out)
  have hc := rowM_cell h0
  have HR := Lib.hid h1
  clear h h0 h1
  go_enter Try.func108, Try.ntmps108
  go_upto_region 1 with fail
  unfold rowM at hW0
  rw [← hW0]
  clear hW0
  go_upto_region 2 with (go_at_call 35; refine (HEv.out _ _ HV.out).mono ?_; rintro e w1 ⟨ao1, cap1, rfl, hown1, hb1⟩)
  have hI := RowIn.of (r := n) (c := n) hb1 hown1
  obtain ⟨g, hg⟩ : ∃ g, g = w1.heap.size := ⟨_, rfl⟩
  obtain ⟨wr1, hwr1⟩ : ∃ wr, wr = w1.alloc (.cells #[.int .i64 n, .int .i64 n, .slice ao1 (n * n) cap1] 24) := ⟨_, rfl⟩
  rw [← hg, ← hwr1] at hI
  rw [← hg, ← hwr1]
  clear hown1 hb1 hg hwr1 hc
  obtain ⟨p, hp⟩ : ∃ p, n * n = p := ⟨_, rfl⟩
  have HP := Lib.hid hp
  have hgz := goodF_zero ps n
  rw [← hgz] at hI
  rw [hp] at hI hnn ⊢
  have HI1 := Lib.hid hI
  go_wp2_with fail
  clear hp hgz hI
  go_loopg [6] n (fun k iv wr => ∃ i : Nat, i ≤ n ∧ k = n - i ∧ iv = .int .i64 i ∧ RowIn W0 wr g n n p (.slice ao1 p cap1) (rowF (goodF ps n i) p))
  case atStart => exact ⟨0, by omega, by omega, rfl, HI1.out⟩
  case round =>
    clear HI1
    obtain ⟨i, hi, rfl, rfl, hI⟩ := hrel
    have HI := Lib.hid hI
    have hkeep := hI.keep
    clear hI
    by_cases hlt : i < n
    · have hil : (i : Int) < (n : Int) := by omega
      obtain ⟨A0, hA0⟩ : ∃ A0, i * n = A0 := ⟨_, rfl⟩
      obtain ⟨A, hA⟩ : ∃ A, A0 + i = A := ⟨_, rfl⟩
      have hAp : A < p := by rw [← hA, ← hA0, ← HP.out]; have := Nat.mul_le_mul_right n (show i + 1 ≤ n by omega); rw [Nat.add_mul, Nat.one_mul] at this; omega
      obtain ⟨q, cap2, he, hcq, hfq, hset⟩ := HI.out.at hAp
      injection he with he1 he2 he3
      subst he1
      subst he3
      have HS := Lib.hid hset
      have hgd : (rowF (goodF ps n i) p).getD A 0 = goodF ps n i A := rowF_getD _ hAp
      rw [hgd] at hcq
      obtain ⟨x, hx⟩ : ∃ x, goodF ps n i A = x := ⟨_, rfl⟩
      rw [hx] at hcq
      have HX := Lib.hid hx
      have hm0 := cell_of_row _ _ 0 _ _ _ HI.out.m
      have hm2 := HI.out.mcell
      simp only [List.getElem?_toArray, List.getElem?_cons_succ, List.getElem?_cons_zero] at hm0
      have e0 : (i : Int) * (n : Int) = (A0 : Int) := by rw [← hA0]; push_cast; rfl
      have e1 : (A0 : Int) + (i : Int) = (A : Int) := by omega
      have HA : Hid (i * n + i = A) := by show _ = _; rw [hA0, hA]
      have hAi : (A : Int) < (p : Int) := by omega
      have hA3 : (0 : Int) ≤ (A : Int) := by omega
      have wA0 := IntWalk.i64_in (A0 : Int) (by omega)
      have wA := IntWalk.i64_in (A : Int) (by omega)
      clear hset he2 hgd hx hA0 hA
      by_cases hx0 : x < 0
      · go_wp2_with fail
        go_roundg (n - (i + 1))
        case measure => omega
        case rel =>
          refine ⟨i + 1, by omega, rfl, by go_num, ?_⟩
          have h := HS.out wr (Below.refl _ _) 0
          have hst := goodF_step ps hlt
          rw [HP.out, HA.out, HX.out, show max x 0 = 0 by omega] at hst
          rw [hst] at h
          exact h
      · have hx1 : 0 ≤ x := by omega
        go_wp2_with fail
        go_roundg (n - (i + 1))
        case measure => omega
        case rel =>
          refine ⟨i + 1, by omega, rfl, by go_num, ?_⟩
          have hst := goodF_step ps hlt
          rw [HP.out, HA.out, HX.out, show max x 0 = x by omega, ← HX.out, rowF_set_self] at hst
          rw [← hst]
          exact HI.out
    · have hin : i = n := by omega
      subst hin
      have hR := block_later HR.out HI.out.keep
      have t := rowM_cell hR
      have tf := rowM_frozen hR
      have m := rowM_cell (show wr.heap[g]? = some (rowM i i ao1 p cap1) from HI.out.m)
      have ho := HI.out.own
      have HRR := Lib.hid hR
      clear hR
      go_wp2_with fail
      have hgl : rowF (goodF ps i i) p = goodL ps i := by rw [← HP.out]; rfl
      rw [hgl] at ho
      have hl : (goodL ps i).length = p := by rw [goodL_len, HP.out]
      rw [← hl] at ho ⊢
      have hown : Own wr W0.heap.size (.slice ao1 (goodL ps i).length cap1) (goodL ps i) := ho
      refine bodyPost_ret (results_m rfl _ _ (s + 1) i i ao1 (goodL ps i).length cap1 rfl (storeM HRR.out _ _ _ _ _)) rfl ⟨ao1, cap1, rfl, ⟨(hown.set3 HRR.out _ _ _).base ?_, goodL_len ps i, hn8, hn8⟩, ?_⟩
      · have := hB0.out.size; omega
      · exact below_set3 (below_tr2 hkeep hB0.out) (by omega) _ _ _

end Go.Proofs.Ytijohedhbbddjaa
