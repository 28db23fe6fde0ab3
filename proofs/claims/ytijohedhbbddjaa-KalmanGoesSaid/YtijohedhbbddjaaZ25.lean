/- Texts of this claim, part 26: contracts of the functions that the law reaches. -/
import Derived.Test.YtijohedhbbddjaaZ24
import Derived.Lib.SliceRun
namespace Go.Proofs.Ytijohedhbbddjaa
open Go.RowKit

theorem Try.infoQc : (Try.prog.info? 25).map (fun i => (i.zero, i.size, i.bytes)) = some (some (.int .i64 0), 1, 8) := by kernel_rfl
set_option maxHeartbeats 2000000 in
set_option maxRecDepth 100000 in
theorem cloneQ_some (w : World) (ad : Addr) (n c : Nat) (cells : List Value) (hl : cells.length = n * 1) (hbig : n * 8 ≤ 140737488355328) (hc : ∀ j u, cells[j]? = some u → w.cell? (ad.add j) = some u) (h1 : ∀ u ∈ cells, u.oneCell' = true) :
    Calls Try.prog 118 #[.slice (some ad) n c] w fun e w' => ∃ v', e = .returned v' ∧ w'.ownsRow w.heap.size 25 1 v' n cells ∧ v' ≠ .slice none 0 0 ∧ Below w.heap.size w w' := by
  obtain ⟨i0, hi, hz0, hz1, hz2⟩ := info_parts Try.infoQc
  have q22 : ∀ (w : World) (a : Option Addr) (n c n' c' : Nat), (binOp .eql 22 (.slice a n c) (.slice none n' c')).run Try.prog w = .ok (.bool a.isNone) w := fun w a n c n' c' => Lib.run_eql_slice_nil w _ _ a n c n' c' Try.underlying22
  have A : Hid (∀ j u, cells[j]? = some u → w.cell? (ad.add j) = some u) := hc
  have HL := Lib.hid hl
  have H1 := Lib.hid h1
  clear hc hl h1
  go_enter Try.func118, Try.ntmps118
  go_wp2_with (at_builtin; refine wpList_append_own _ rfl _ _ 22 rfl w.heap.size 25 i0 (.int .i64 0) 1 8 Try.underlying22 hi hz0 hz1 hz2 rfl (by decide) _ _ _ rfl (World.ownsRow_made w #[] 0 (Nat.le_refl _) (Nat.zero_le _) rfl) ad n c cells rfl ?qc1 ?qc2 ?qc3 ?qc4 ?qc5 ?qc6 ?_)
  case qc1 => exact HL.out
  case qc2 => intro j u hj; exact cell_later (below1 w _) (A.out j u hj)
  case qc3 => exact H1.out
  case qc4 => unfold maxLen; omega
  case qc5 => omega
  case qc6 => simp
  intro v' w1 hown hgrow hnil
  go_wp2_with fail
  go_ret
  refine ⟨v', rfl, by simpa using hown, ?_, ?_⟩
  · first | exact hnil | exact fun h => by simpa using hnil.1 h
  · exact ((Below.refl _ w).alloc (Nat.le_refl _) _).grown hgrow (by simp) (by intro k hk; simp [Value.ownBlock] at hk; omega)
set_option maxHeartbeats 1000000 in
theorem cloneQ_none (w : World) (n c : Nat) :
    Calls Try.prog 118 #[.slice none n c] w fun e w' => e = .returned (.slice none 0 0) ∧ w = w' := by
  have q22 : ∀ (w : World) (a : Option Addr) (n c n' c' : Nat), (binOp .eql 22 (.slice a n c) (.slice none n' c')).run Try.prog w = .ok (.bool a.isNone) w := fun w a n c n' c' => Lib.run_eql_slice_nil w _ _ a n c n' c' Try.underlying22
  go_enter Try.func118, Try.ntmps118
  go_wp2_with fail
  go_ret
  exact ⟨rfl, rfl⟩

theorem cloneQ_any (w : World) (v : Value) (xs : List Int) (h : QS w v xs) (hl : xs.length ≤ 1000000) :
    Calls Try.prog 118 #[v] w fun e w' => ∃ ao cap, e = .returned (.slice ao xs.length cap) ∧ Own w' w.heap.size (.slice ao xs.length cap) xs ∧ Below w.heap.size w w' := by
  obtain ⟨ao, cap, rfl, hcap, hx⟩ := h
  cases ao with
  | none =>
    have h0 : xs = [] := by
      cases xs with
      | nil => rfl
      | cons x l => obtain ⟨b, off, h, -⟩ := hx 0 x rfl; cases h
    subst h0
    refine (cloneQ_none w _ _).mono fun e w' ⟨he, hw⟩ => ?_
    subst hw
    exact ⟨none, 0, he, ⟨rfl, Or.inl ⟨rfl, rfl⟩⟩, Below.refl _ _⟩
  | some ad =>
    refine (cloneQ_some w ad xs.length cap (xs.map (Value.int .i64)) (by simp) (by omega) ?_ ?_).mono fun e w' ⟨v', he, ho, hv, hb⟩ => ?_
    · intro j u hj
      rw [List.getElem?_map] at hj
      cases hxj : xs[j]? with
      | none => rw [hxj] at hj; cases hj
      | some x =>
        rw [hxj] at hj
        injection hj with hj
        subst hj
        obtain ⟨b, off, h, hcell⟩ := hx j x hxj
        injection h with h
        subst h
        rw [Addr.add_lit]
        exact hcell
    · intro u hu
      obtain ⟨x, _, rfl⟩ := List.mem_map.1 hu
      rfl
    · obtain ⟨ao', cap', rfl⟩ : ∃ ao' cap', v' = .slice ao' xs.length cap' := by
        rcases ho.2 with h | ⟨g, cap, cur, hv2, -⟩
        · exact absurd h.1 hv
        · exact ⟨_, _, hv2⟩
      exact ⟨ao', cap', he, Own.of ho, hb⟩

def GivesN (xs : List Int) (p : MRes) (w : World) (e : Ending) (w' : World) : Prop :=
  ∃ ax cx ap cp, e = .returned (.tuple #[.agg #[.int .i64 xs.length, .int .i64 1, .slice ax xs.length cx, .int .i64 p.r, .int .i64 p.c, .slice ap p.xs.length cp], .int .i64 0]) ∧
    Own w' w.heap.size (.slice ax xs.length cx) xs ∧ Own w' w.heap.size (.slice ap p.xs.length cp) p.xs ∧ Below w.heap.size w w'
theorem below_cells {w w' : World} (hb : Below w.heap.size w w') : (∀ b o, b < w.heap.size → w'.cell? ⟨b, o, none⟩ = w.cell? ⟨b, o, none⟩) ∧ (∀ b o, b < w.heap.size → w'.frozen? ⟨b, o, none⟩ = w.frozen? ⟨b, o, none⟩) :=
  ⟨fun b o h => hb.cell (p := ⟨b, o, none⟩) h, fun b o h => hb.frozen (p := ⟨b, o, none⟩) h⟩
theorem Own.setT {w : World} {base g : Nat} {v : Value} {xs : List Int} (h : Own w base v xs) (x0 x1 x2 x3 x4 x5 : Value) {cs : Array Value} (hg : w.heap[g]? = some (.cells cs 71 (0, 0))) : Own ((((((w.setCell ⟨g, 0, none⟩ x0).setCell ⟨g, 1, none⟩ x1).setCell ⟨g, 2, none⟩ x2).setCell ⟨g, 3, none⟩ x3).setCell ⟨g, 4, none⟩ x4).setCell ⟨g, 5, none⟩ x5) base v xs :=
  h.kept fun k cs' _ hk => setT_other _ _ _ _ _ _ (fun he => by subst he; rw [hg] at hk; simp at hk)
theorem results_t1e {fn : Func} {p u : Tmp} (h : fn.results = #[.cell p 71, .tmp u]) (tmps : Array Value) (w : World) (g : Nat) (xr xc : Int) (ax : Option Addr) (nx cx : Nat) (pr pc : Int) (ap : Option Addr) (np cp : Nat) (hp : tmps.getD p undef = .pointer (some ⟨g, 0, none⟩)) (hg : w.heap[g]? = some (rowT xr xc ax nx cx pr pc ap np cp)) :
    (results fn tmps).run Try.prog w = .ok (.tuple #[.agg #[.int .i64 xr, .int .i64 xc, .slice ax nx cx, .int .i64 pr, .int .i64 pc, .slice ap np cp], tmps.getD u undef]) w := by
  unfold rowT at hg
  exact results_row1 h tmps w g _ _ _ _ hp hg Try.underlying71 rfl (by kernel_rfl)

set_option maxRecDepth 100000 in
set_option maxHeartbeats 2000000 in
theorem knew_ok (w : World) (vx vv : Value) (xs vs : List Int) (hx : QS w vx xs) (hv : QS w vv vs) (hlx : xs.length ≤ 100) (hlv : vs.length ≤ 100) (r c : Int) (pl : List Int)
    (hd : ∃ odd, diagR vs = ⟨r, c, pl, odd, 0⟩) (ht : trackB xs.length 1 xs r c pl = true) :
    Calls Try.prog 102 #[vx, vv] w (GivesN xs ⟨r, c, pl, false, 0⟩ w) := by
  obtain ⟨odd, hd⟩ := hd
  obtain ⟨ax, cx, rfl, -⟩ := id hx
  obtain ⟨av, cv, rfl, -⟩ := id hv
  have hpl : pl.length ≤ 64 := by have := diagR_len vs; rw [hd] at this; exact this
  have hDg : ∀ (w : World) v, QS w v vs → Calls Try.prog 30 #[v] w fun e w' => ∃ ao cap, e = .returned (.tuple #[.agg #[.int .i64 r, .int .i64 c, .slice ao pl.length cap], .int .i64 0]) ∧ Own w' w.heap.size (.slice ao pl.length cap) pl ∧ Below w.heap.size w w' := fun w v h =>
    (diag_any w v vs h (by omega)).mono fun e w' hg => by
      rw [hd] at hg
      obtain ⟨ao, cap, he, ho, hb⟩ := hg
      exact ⟨ao, cap, he, ho, hb⟩
  have hRt := fun (w : World) (v v' : Value) h h' => kright_any w xs.length 1 r c v v' xs pl h h' (by omega) (by omega)
  rw [ht] at hRt
  have HDg := Lib.hid hDg
  have HRt := Lib.hid hRt
  clear hDg hRt hd ht
  have e8 : ∀ x y : Int, (x != y) = !decide (x = y) := fun _ _ => rfl
  obtain ⟨s, hsz⟩ : ∃ s, w.heap.size = s := ⟨_, rfl⟩
  obtain ⟨W, hW⟩ : ∃ W, W = w.alloc (rowT 0 0 none 0 0 0 0 none 0 0) := ⟨_, rfl⟩
  have hbW : Below w.heap.size w W := by rw [hW]; exact below1 _ _
  have h0 : W.heap[s]? = some (rowT 0 0 none 0 0 0 0 none 0 0) := by rw [hW]; exact heap_at _ _ _ hsz.symm
  have HXs := Lib.hid (hx.later hbW)
  have HVs := Lib.hid (hv.later hbW)
  have HB := Lib.hid hbW
  have HR := Lib.hid h0
  clear hx hv h0 hbW
  go_enter Try.func102, Try.ntmps102
  go_upto_region 1 with fail
  unfold rowT at hW
  rw [← hW]
  clear hW
  go_upto_region 2 with (go_at_call 30; (refine (HDg.out _ _ HVs.out).mono ?_); rintro e w1 ⟨ap, cp, rfl, ho1, hd1⟩)
  obtain ⟨g6, hg6⟩ : ∃ g, g = w1.heap.size := ⟨_, rfl⟩
  obtain ⟨V, hV⟩ : ∃ V, V = w1.alloc (rowM r c ap pl.length cp) := ⟨_, rfl⟩
  have h6 : V.heap[g6]? = some (rowM r c ap pl.length cp) := by rw [hV]; exact heap_at _ _ _ hg6
  have hbV : Below W.heap.size W V := by rw [hV]; exact below_al hd1 _
  have HO1 : Hid (Own V W.heap.size (.slice ap pl.length cp) pl) := by rw [hV]; exact ho1.later (below1 _ _)
  rw [← hg6]
  unfold rowM at hV
  rw [← hV]
  have k6 := rowM_cell h6
  have r0 := cells_later k6.1
  have r1 := cells_later k6.2.1
  have r2 := cells_later k6.2.2
  have HXV := Lib.hid (HXs.out.later hbV)
  have HBV := Lib.hid (below_trans2 HB.out hbV)
  have HRV := Lib.hid (block_later HR.out hbV)
  have hk0 := Below.refl V.heap.size V
  have hszV : s < V.heap.size := lt_of_block HRV.out
  clear hV hg6 ho1 hd1 k6 h6 hbV
  go_cut [8] (fun s8 wx => ∃ g a c', s8 = .pointer (some ⟨g, 0, none⟩) ∧ wx.heap[g]? = some (rowT xs.length 1 a xs.length c' r c ap pl.length cp) ∧ Own wx w.heap.size (.slice a xs.length c') xs ∧ Below V.heap.size V wx ∧ V.heap.size ≤ g)
  case first =>
    go_region_held3 (fun w' => Below V.heap.size V w') (first | (with_reducible assumption) | (with_reducible exact below_drew _) | (with_reducible exact (below1 V _).drew) | (with_reducible exact hk2.alloc hsz2 _) | (with_reducible exact below_setT _ _ _ _ _ _ hk2 (Nat.le_refl _)) | (with_reducible exact below_setT _ _ _ _ _ _ (hk2.alloc hsz2 _) hsz2)) (first | (go_at_call 118; refine (cloneQ_any _ _ xs (by first | exact HXV.out.later (below_drew _) | exact HXV.out.later (below1 V _).drew) (by omega)).mono ?_; rintro e w2 ⟨a2, c2, rfl, ho2, hd2⟩; have hk2 : Below V.heap.size V w2 := (by first | exact below_trans2 (below_drew _) hd2 | exact below_trans2 (below1 V _).drew hd2); have hsz2 := hk2.size; obtain ⟨hc2, hf2⟩ := below_cells hd2; (try have hz2 : V.heap.size < w2.heap.size := (by have := hd2.size; simp at this; omega))))
    all_goals go_wp2_with fail
    all_goals go_meet
    · exact ⟨_, a2, c2, rfl, heap_at _ _ _ rfl, (ho2.later (below1 _ _)).base (by have := HBV.out.size; simp; omega), hk2.alloc hsz2 _, by omega⟩
    · have hR := block_later (heap_at V (rowT 0 0 none 0 0 0 0 none 0 0) _ rfl) (below_trans2 (below_drew _) hd2)
      exact ⟨_, a2, c2, rfl, storeT hR _ _ _ _ _ _ _ _ _ _, (ho2.setT _ _ _ _ _ _ hR).base (by have := HBV.out.size; simp; omega), below_setT _ _ _ _ _ _ hk2 (Nat.le_refl _), Nat.le_refl _⟩
  case rest =>
    obtain ⟨g, a2, c2, rfl, h8, ho8, hk8, hg8⟩ := hcut
    have HO8 := Lib.hid ho8
    have HO1' := Lib.hid (HO1.out.later hk8)
    have H8 := Lib.hid h8
    have HB8 := Lib.hid (below_trans2 HBV.out hk8)
    have HR8 := Lib.hid (block_later HRV.out hk8)
    have m8 := rowT_cell h8
    have n0 := cells_later m8.1
    have n1 := cells_later m8.2.1
    have n2 := cells_later m8.2.2.1
    have n3 := cells_later m8.2.2.2.1
    have n4 := cells_later m8.2.2.2.2.1
    have n5 := cells_later m8.2.2.2.2.2
    have hk9 := Below.refl wc.heap.size wc
    have hsg : s < wc.heap.size := lt_of_block HR8.out
    clear r0 r1 r2 h8 ho8 hk8 m8 hk0
    go_upto_region 5 with (go_at_call 119; refine (HRt.out _ _ _ HO8.out.qs HO1'.out.qs).mono ?_; rintro e w4 ⟨rfl, hk4⟩)
    have HO9 := Lib.hid (HO8.out.later hk4)
    have HO19 := Lib.hid (HO1'.out.later hk4)
    have HB9 := Lib.hid (below_trans2 HB8.out hk4)
    have hR9 := block_later HR8.out hk4
    have t8 := rowT_cell (block_later H8.out hk4)
    have tc := rowT_cell hR9
    have tf := rowT_frozen hR9
    have hws := HB9.out.size
    go_wp2_with fail
    refine bodyPost_ret (results_t1e rfl _ _ s xs.length 1 a2 xs.length c2 r c ap pl.length cp rfl (storeT hR9 _ _ _ _ _ _ _ _ _ _)) rfl ⟨a2, c2, ap, cp, rfl, HO9.out.setT _ _ _ _ _ _ hR9, (HO19.out.setT _ _ _ _ _ _ hR9).base (by have := HB.out.size; omega), below_setT _ _ _ _ _ _ HB9.out (by omega)⟩

end Go.Proofs.Ytijohedhbbddjaa
