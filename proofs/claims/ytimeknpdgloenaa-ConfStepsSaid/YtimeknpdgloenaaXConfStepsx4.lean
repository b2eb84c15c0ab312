/- Laid by xprint.py, a program of this session, which runs the kit's print with contracts of its own. -/
import Derived.Test.YtimeknpdgloenaaXConfStepsx0
import Derived.Test.YtimeknpdgloenaaXConfStepsx1
import Derived.Test.YtimeknpdgloenaaXConfStepsx2
import Derived.Test.YtimeknpdgloenaaXConfStepsx3
namespace Go.Proofs.Ytimeknpdgloenaa.XConfSteps
open Go.RowKit Go.Proofs.YtimeknpdgloenaaW.PrintWords Go.Proofs.YtimeknpdgloenaaW.PrintLast Go.Proofs.YtimeknpdgloenaaW.PrintMore
attribute [local go_sem] max2_int min2_int max_two min_two max_three min_three max_four min_four   -- for this text's walks alone
set_option linter.unusedVariables false
set_option linter.unusedSimpArgs false

/-! ### synodallaw8_ConfSteps: function 8 -/
mutual
def synodallaw8_ConfSteps.l0 : Nat → List (List Int) → Int → List Int → List Int → Option (Bool)
  | 0, _, _, _, _ => none
  | k + 1, x10, x11, x222000, x222001 => if x11 < 2 then (if 0 ≤ x11 then (if x11 < (x10.length : Int) then ((conf_Enter.f k x222000 x222001 (rd_L1 x10 x11)).bind fun bt229 => ((synodalref8_Enter.f k x222000 x222001 (rd_L1 x10 x11)).bind fun bt238 => (if bt229.2.2 = bt238.2.2 then ((synodalref8_Same.f k bt229.1 bt229.2.1 bt238.1 bt238.2.1).bind fun t246 => (synodallaw8_ConfSteps.j1 k x10 x11 (!t246) x222000 x222001)) else (synodallaw8_ConfSteps.j1 k x10 x11 true x222000 x222001)))) else (none)) else (none)) else ((conf_Leave.f x222000 x222001).bind fun bt247 => ((synodalref8_Leave.f x222000 x222001).bind fun bt255 => (if bt247.2.2 = bt255.2.2 then ((synodalref8_Same.f k bt247.1 bt247.2.1 bt255.1 bt255.2.1).bind fun t263 => (some t263)) else (some false))))
def synodallaw8_ConfSteps.j1 : Nat → List (List Int) → Int → Bool → List Int → List Int → Option (Bool)
  | 0, _, _, _, _, _ => none
  | k + 1, x10, x11, x62, x222000, x222001 => if x62 = true then (some false) else (synodallaw8_ConfSteps.l0 k x10 (wrap64 (x11 + 1)) x222000 x222001)
end
def synodallaw8_ConfSteps.f (k : Nat) (a0 : Int) (a1 : Int) (l2 : List Int) (a3 : Int) : Option (Bool) := (synodallaw8_known.f k).bind fun t214 => (if t214 = true then (if (l2.length : Int) > 30 then (some true) else ((synodallaw8_Good.f k a0 a1).bind fun bt215 => ((synodallaw8_List.f k a3).bind fun t222 => (synodallaw8_ConfSteps.l0 k (([l2, t222] : List (List Int))) 0 bt215.1 bt215.2)))) else (some false))
theorem synodallaw8_ConfSteps.mono_l : ∀ k, (∀ y0 y1 y2 y3, LeO (synodallaw8_ConfSteps.l0 k y0 y1 y2 y3) (synodallaw8_ConfSteps.l0 (k + 1) y0 y1 y2 y3)) ∧ (∀ y0 y1 y2 y3 y4, LeO (synodallaw8_ConfSteps.j1 k y0 y1 y2 y3 y4) (synodallaw8_ConfSteps.j1 (k + 1) y0 y1 y2 y3 y4))
  | 0 => ⟨fun _ _ _ _ r h => by simp [synodallaw8_ConfSteps.l0] at h, fun _ _ _ _ _ r h => by simp [synodallaw8_ConfSteps.j1] at h⟩
  | k + 1 => by
    obtain ⟨ih0, ih1⟩ := synodallaw8_ConfSteps.mono_l k
    refine ⟨?_, ?_⟩
    · intro y0 y1 y2 y3
      unfold synodallaw8_ConfSteps.l0
      repeat' first
      | (with_reducible exact ih0 _ _ _ _)
      | (with_reducible exact ih1 _ _ _ _ _)
      | (with_reducible exact conf_Enter.mono _ _ _ _)
      | (with_reducible exact synodallaw8_Good.mono _ _ _)
      | (with_reducible exact synodallaw8_List.mono _ _)
      | (with_reducible exact synodallaw8_known.mono _)
      | (with_reducible exact synodalref8_Enter.mono _ _ _ _)
      | (with_reducible exact synodalref8_Same.mono _ _ _ _ _)
      | (with_reducible exact LeO.refl _)
      | (with_reducible exact LeO.none _)
      | (with_reducible refine LeO.ite ?_ ?_)
      | (with_reducible refine LeO.bind ?_ (fun _ => ?_))
      | exact ih0 _ _ _ _
      | exact ih1 _ _ _ _ _
      | exact conf_Enter.mono _ _ _ _
      | exact synodallaw8_Good.mono _ _ _
      | exact synodallaw8_List.mono _ _
      | exact synodallaw8_known.mono _
      | exact synodalref8_Enter.mono _ _ _ _
      | exact synodalref8_Same.mono _ _ _ _ _
      | exact LeO.none _
      | refine LeO.ite ?_ ?_
      | refine LeO.bind ?_ (fun _ => ?_)
    · intro y0 y1 y2 y3 y4
      unfold synodallaw8_ConfSteps.j1
      repeat' first
      | (with_reducible exact ih0 _ _ _ _)
      | (with_reducible exact ih1 _ _ _ _ _)
      | (with_reducible exact conf_Enter.mono _ _ _ _)
      | (with_reducible exact synodallaw8_Good.mono _ _ _)
      | (with_reducible exact synodallaw8_List.mono _ _)
      | (with_reducible exact synodallaw8_known.mono _)
      | (with_reducible exact synodalref8_Enter.mono _ _ _ _)
      | (with_reducible exact synodalref8_Same.mono _ _ _ _ _)
      | (with_reducible exact LeO.refl _)
      | (with_reducible exact LeO.none _)
      | (with_reducible refine LeO.ite ?_ ?_)
      | (with_reducible refine LeO.bind ?_ (fun _ => ?_))
      | exact ih0 _ _ _ _
      | exact ih1 _ _ _ _ _
      | exact conf_Enter.mono _ _ _ _
      | exact synodallaw8_Good.mono _ _ _
      | exact synodallaw8_List.mono _ _
      | exact synodallaw8_known.mono _
      | exact synodalref8_Enter.mono _ _ _ _
      | exact synodalref8_Same.mono _ _ _ _ _
      | exact LeO.none _
      | refine LeO.ite ?_ ?_
      | refine LeO.bind ?_ (fun _ => ?_)
theorem synodallaw8_ConfSteps.mono : ∀ a0 a1 a2 a3 k, LeO (synodallaw8_ConfSteps.f k a0 a1 a2 a3) (synodallaw8_ConfSteps.f (k + 1) a0 a1 a2 a3) := by
  intro a0 a1 a2 a3 k
  obtain ⟨ih0, ih1⟩ := synodallaw8_ConfSteps.mono_l k
  unfold synodallaw8_ConfSteps.f
  repeat' first
      | (with_reducible exact ih0 _ _ _ _)
      | (with_reducible exact ih1 _ _ _ _ _)
      | (with_reducible exact conf_Enter.mono _ _ _ _)
      | (with_reducible exact synodallaw8_Good.mono _ _ _)
      | (with_reducible exact synodallaw8_List.mono _ _)
      | (with_reducible exact synodallaw8_known.mono _)
      | (with_reducible exact synodalref8_Enter.mono _ _ _ _)
      | (with_reducible exact synodalref8_Same.mono _ _ _ _ _)
      | (with_reducible exact LeO.refl _)
      | (with_reducible exact LeO.none _)
      | (with_reducible refine LeO.ite ?_ ?_)
      | (with_reducible refine LeO.bind ?_ (fun _ => ?_))
      | exact ih0 _ _ _ _
      | exact ih1 _ _ _ _ _
      | exact conf_Enter.mono _ _ _ _
      | exact synodallaw8_Good.mono _ _ _
      | exact synodallaw8_List.mono _ _
      | exact synodallaw8_known.mono _
      | exact synodalref8_Enter.mono _ _ _ _
      | exact synodalref8_Same.mono _ _ _ _ _
      | exact LeO.none _
      | refine LeO.ite ?_ ?_
      | refine LeO.bind ?_ (fun _ => ?_)
def synodallaw8_ConfSteps.T10 : Bool × List (List Nat × List Nat) := (true, [([], []), ([], []), ([], []), ([1, 2], [1, 2]), ([3], [3]), ([0, 4], [0, 4]), ([5], [5]), ([6], [6]), ([6], [6]), ([], []), ([9, 7, 5, 0, 1, 2, 3, 4, 5, 6, 7, 9], [7, 9]), ([8, 10, 0, 1, 2, 3, 4, 5, 6, 7, 8, 9, 10], [8])])
def synodallaw8_ConfSteps.B10 : List Nat := [0, 0, 0, 6, 14, 31, 63, 127, 127, 0, 767, 2047]
theorem synodallaw8_ConfSteps.tab10 : rtab .any (opsOf Try.f8 10) = synodallaw8_ConfSteps.T10 := by kernel_rfl
theorem synodallaw8_ConfSteps.bits10 : waitsOk synodallaw8_ConfSteps.T10.2 synodallaw8_ConfSteps.B10 = true := by kernel_rfl
def synodallaw8_ConfSteps.T11 : Bool × List (List Nat × List Nat) := (true, [([], []), ([], []), ([], []), ([1, 2], [1, 2]), ([3], [3]), ([0, 4], [0, 4]), ([5], [5]), ([6], [6]), ([6], [6]), ([], []), ([9, 7, 5, 0, 1, 2, 3, 4, 5, 6, 7, 9], [7, 9]), ([8, 10, 0, 1, 2, 3, 4, 5, 6, 7, 8, 9, 10], [8])])
def synodallaw8_ConfSteps.B11 : List Nat := [0, 0, 0, 6, 14, 31, 63, 127, 127, 0, 767, 2047]
theorem synodallaw8_ConfSteps.tab11 : rtab .any (opsOf Try.f8 11) = synodallaw8_ConfSteps.T11 := by kernel_rfl
theorem synodallaw8_ConfSteps.bits11 : waitsOk synodallaw8_ConfSteps.T11.2 synodallaw8_ConfSteps.B11 = true := by kernel_rfl
set_option maxHeartbeats 8000000 in
set_option maxRecDepth 100000 in
theorem synodallaw8_ConfSteps.calls (k : Nat) (a0 : Int) (a1 : Int) (P2_ : Nat → Prop) (A2 : Option Addr) (c2 : Nat) (l2 : List Int) (a3 : Int) (r : Bool) (w : World) (hs2 : Kd.V (Kd.int .i64) 3 w w.heap.size (fun k_ => P2_ k_) (.slice A2 l2.length c2) l2) (h : synodallaw8_ConfSteps.f k a0 a1 l2 a3 = some r) :
    Calls Try.prog 8 #[.int .i64 a0, .int .i64 a1, .slice A2 l2.length c2, .int .i64 a3] w fun e w' => e = .returned (.bool r) ∧ Below w.heap.size w w' := by
  have hu42 := Try.underlying42
  have HO2 := Aside0.mk (show Kd.V (Kd.int .i64) 3 w w.heap.size (fun k_ => (P2_ k_ ∨ w.heap.size ≤ k_)) (.slice A2 l2.length c2) l2 from Kd.V_mono hs2 (fun k_ hk => .inl hk))
  have HB := Aside0.mk (Below.refl w.heap.size w)
  have H : ((synodallaw8_known.f k).bind fun t214 => (if t214 = true then (if (l2.length : Int) > 30 then (some true) else ((synodallaw8_Good.f k a0 a1).bind fun bt215 => ((synodallaw8_List.f k a3).bind fun t222 => (synodallaw8_ConfSteps.l0 k (([l2, t222] : List (List Int))) 0 bt215.1 bt215.2)))) else (some false))) = some r := h
  clear h
  replace H := Option.bind_eq_some_iff.mp H
  obtain ⟨t214, A50, H⟩ := H
  replace H : (if t214 = true then (if (l2.length : Int) > 30 then (some true) else ((synodallaw8_Good.f k a0 a1).bind fun bt215 => ((synodallaw8_List.f k a3).bind fun t222 => (synodallaw8_ConfSteps.l0 k (([l2, t222] : List (List Int))) 0 bt215.1 bt215.2)))) else (some false)) = some r := H
  have A5 := Aside0.mk A50
  clear A50
  by_cases c6 : t214 = true
  · subst c6
    have H1 : (if (l2.length : Int) > 30 then (some true) else ((synodallaw8_Good.f k a0 a1).bind fun bt215 => ((synodallaw8_List.f k a3).bind fun t222 => (synodallaw8_ConfSteps.l0 k (([l2, t222] : List (List Int))) 0 bt215.1 bt215.2)))) = some r := by rw [if_pos rfl] at H; exact H
    clear H
    have H := H1
    clear H1
    by_cases c7 : (l2.length : Int) > 30
    · rw [if_pos c7] at H
      have c7b0 : decide (30 < (l2.length : Int)) = true := decide_eq_true c7
      have c7b1 : decide (30 < l2.length) = true := decide_eq_true (by omega)
      clear c7
      obtain rfl := Option.some.inj H
      go_enter Try.func8, Try.ntmps8
      go_wp2_with (first | ((with_reducible refine gate_callee (f := 20) rfl ?_); refine goesL_ (some 20) rfl rfl Try.func20 (by kernel_rfl) rfl #[] rfl (by (try simp only [List.map_toArray, List.map_cons, List.map_nil]); first | done | rfl | (simp only [List.length_drop, List.length_take]; rfl)) ?_; (with_reducible refine (synodallaw8_known.calls k  true _ A5.out).mono ?_); rintro e w8 ⟨rfl, hb⟩; refine ⟨_, rfl, ?_⟩; have n0_ := Aside0.mk (Kd.V_below (by (with_reducible repeat (first | apply Kd.V_alloc | apply Kd.V_drewN | apply Kd.V_drew)); exact HO2.out) hb); have n1_ := Aside0.mk (below_step (by repeat (first | (with_reducible first | exact HB.out | apply below_alloc | apply pw_below_drewN | apply below_drew1) | exact HB.out)) hb); clear HO2; clear HB; have HO2 := n0_; have HB := n1_; clear n0_ n1_; (try clear hb); (try clear hb2); (try clear hk); (try clear hi)))
      go_ret
      exact ⟨by first | rfl | (simp [errW_none, errW_some] <;> rfl) | (simp [*, errW_none, errW_some] <;> rfl), by repeat (first | (with_reducible first | exact HB.out | apply below_alloc | apply pw_below_drewN | apply below_drew1) | exact HB.out)⟩
    · rw [if_neg c7] at H
      have c7b0 : decide (30 < (l2.length : Int)) = false := decide_eq_false c7
      have c7b1 : decide (30 < l2.length) = false := decide_eq_false (by omega)
      clear c7
      replace H := Option.bind_eq_some_iff.mp H
      obtain ⟨⟨t215, t218⟩, A90, H⟩ := H
      replace H : ((synodallaw8_List.f k a3).bind fun t222 => (synodallaw8_ConfSteps.l0 k (([l2, t222] : List (List Int))) 0 t215 t218)) = some r := H
      have A9 := Aside0.mk A90
      clear A90
      replace H := Option.bind_eq_some_iff.mp H
      obtain ⟨t222, A100, H⟩ := H
      replace H : (synodallaw8_ConfSteps.l0 k (([l2, t222] : List (List Int))) 0 t215 t218) = some r := H
      have A10 := Aside0.mk A100
      clear A100
      obtain ⟨y225, hy225⟩ : ∃ y_ : List (List Int), y_ = (([l2, t222] : List (List Int))) := ⟨_, rfl⟩
      replace H : (synodallaw8_ConfSteps.l0 k y225 0 t215 t218) = some r := by first | (rw [hy225]; with_reducible exact H) | (have H2_ := (Option.bind_some _ _).symm.trans H; rw [hy225]; with_reducible exact H2_) | (have H2_ := (Option.bind_some _ _).symm.trans H; with_reducible exact H2_) | with_reducible exact H | (rw [hy225]; exact H) | exact H
      have Ny225 := Aside0.mk hy225
      clear hy225
      have H' := Aside0.mk H
      clear H
      go_enter Try.func8, Try.ntmps8
      go_wp2_with (first | ((with_reducible refine gate_callee (f := 20) rfl ?_); refine goesL_ (some 20) rfl rfl Try.func20 (by kernel_rfl) rfl #[] rfl (by (try simp only [List.map_toArray, List.map_cons, List.map_nil]); first | done | rfl | (simp only [List.length_drop, List.length_take]; rfl)) ?_; (with_reducible refine (synodallaw8_known.calls k  true _ A5.out).mono ?_); rintro e w11 ⟨rfl, hb⟩; refine ⟨_, rfl, ?_⟩; have n0_ := Aside0.mk (Kd.V_below (by (with_reducible repeat (first | apply Kd.V_alloc | apply Kd.V_drewN | apply Kd.V_drew)); exact HO2.out) hb); have n1_ := Aside0.mk (below_step (by repeat (first | (with_reducible first | exact HB.out | apply below_alloc | apply pw_below_drewN | apply below_drew1) | exact HB.out)) hb); clear HO2; clear HB; have HO2 := n0_; have HB := n1_; clear n0_ n1_; (try clear hb); (try clear hb2); (try clear hk); (try clear hi)) | ((with_reducible refine gate_callee (f := 26) rfl ?_); refine goesL_ (some 27) rfl rfl Try.func26 (by kernel_rfl) rfl #[.int .i64 a0, .int .i64 a1] rfl (by (try simp only [List.map_toArray, List.map_cons, List.map_nil]); first | done | rfl | (simp only [List.length_drop, List.length_take]; rfl)) ?_; (with_reducible refine (synodallaw8_Good.calls k a0 a1 t215 t218 _ A9.out).mono ?_); rintro e w12 ⟨v216, v219, rfl, ho0, ho1, hb⟩; refine ⟨_, rfl, ?_⟩; have n0_ := Aside0.mk (Kd.V_mono (Kd.V_told (Kd.V_told (Kd.V_old (by (with_reducible repeat (first | apply Kd.V_alloc | apply Kd.V_drewN | apply Kd.V_drew)); exact HO2.out) hb) (Kd.R_base ho0)) (Kd.R_base ho1)) (fun _ h_ => h_.1)); have n1_ := Aside0.mk (Kd.R_lower (Kd.R_newM (M := fun k_ => (w.heap.size ≤ k_)) ho0 (below_size (by repeat (first | (with_reducible first | exact HB.out | apply below_alloc | apply pw_below_drewN | apply below_drew1) | exact HB.out))) (fun k_ h_ => h_)) (below_size (by repeat (first | (with_reducible first | exact HB.out | apply below_alloc | apply pw_below_drewN | apply below_drew1) | exact HB.out)))); have n2_ := Aside0.mk (Kd.R_lower (Kd.R_newM (M := fun k_ => (w.heap.size ≤ k_)) ho1 (below_size (by repeat (first | (with_reducible first | exact HB.out | apply below_alloc | apply pw_below_drewN | apply below_drew1) | exact HB.out))) (fun k_ h_ => h_)) (below_size (by repeat (first | (with_reducible first | exact HB.out | apply below_alloc | apply pw_below_drewN | apply below_drew1) | exact HB.out)))); have n3_ := Aside0.mk (below_step (by repeat (first | (with_reducible first | exact HB.out | apply below_alloc | apply pw_below_drewN | apply below_drew1) | exact HB.out)) hb); clear HO2; clear HB; have HO2 := n0_; have HO217 := n1_; have HO220 := n2_; have HB := n3_; clear n0_ n1_ n2_ n3_; (try clear hb); (try clear hb2); (try clear hk); (try clear hi); (try clear ho0); (try clear ho1)) | ((with_reducible refine gate_dst (N := 9) rfl ?_); refine box_event ?hg (N := 9) ?hd (cs := #[.slice none 0 0, .slice none 0 0]) (t := 42) ?hr ?_; (case hd => rfl); (case hg => rfl); (case hr => first | (go_simp; done) | (go_simp; rfl)); intro gb221 hg w13 hbox hb; have n0_ := Aside0.mk (Kd.V_below (Kd.V_elderB (by (with_reducible repeat (first | apply Kd.V_alloc | apply Kd.V_drewN | apply Kd.V_drew)); exact HO2.out) gb221 (Nat.le_of_eq hg.symm)) hb); have n1_ := Aside0.mk (Kd.R_below (by (with_reducible repeat (first | apply Kd.R_alloc | apply Kd.R_drewN | apply Kd.R_drew)); exact HO217.out) hb); have n2_ := Aside0.mk (Kd.R_below (by (with_reducible repeat (first | apply Kd.R_alloc | apply Kd.R_drewN | apply Kd.R_drew)); exact HO220.out) hb); have n3_ := Aside0.mk (below_step (by repeat (first | (with_reducible first | exact HB.out | apply below_alloc | apply pw_below_drewN | apply below_drew1) | exact HB.out)) hb); have n4_ := Aside0.mk (hbox); have n5_ := Aside0.mk ((by rw [hg]; exact (below_size (by repeat (first | (with_reducible first | exact HB.out | apply below_alloc | apply pw_below_drewN | apply below_drew1) | exact HB.out))) : w.heap.size ≤ gb221)); have n6_ := Aside0.mk ((by rw [hg]; exact (below_size (by repeat (first | (with_reducible first | exact HB.out | apply below_alloc | apply pw_below_drewN | apply below_drew1) | exact HB.out))) : w.heap.size ≤ gb221)); clear HO2; clear HO217; clear HO220; clear HB; have HO2 := n0_; have HO217 := n1_; have HO220 := n2_; have HB := n3_; have BK221 := n4_; have GW221 := n5_; have GE221 := n6_; clear n0_ n1_ n2_ n3_ n4_ n5_ n6_; clear hb hbox hg; obtain ⟨Ao14, co14, eo14⟩ := Kd.R_slice HO217.out; subst eo14; have hcz15_0 : w13.cell? ⟨gb221, 0, none⟩ = some (.slice none 0 0) := (blk_cell BK221.out 0).trans rfl; have hcz15_1 : w13.cell? ⟨gb221, 1, none⟩ = some (.slice none 0 0) := (blk_cell BK221.out 1).trans rfl; have hfz15_0 := blk_frozen BK221.out 0; have hfz15_1 := blk_frozen BK221.out 1; obtain ⟨Ao16, co16, eo16⟩ := Kd.R_slice HO220.out; subst eo16) | ((with_reducible refine gate_callee (f := 27) rfl ?_); refine goesL_ (some 30) rfl rfl Try.func27 (by kernel_rfl) rfl #[.int .i64 a3] rfl (by (try simp only [List.map_toArray, List.map_cons, List.map_nil]); first | done | rfl | (simp only [List.length_drop, List.length_take]; rfl)) ?_; (with_reducible refine (synodallaw8_List.calls k a3 t222 _ A10.out).mono ?_); rintro e w17 ⟨v223, rfl, ho0, hb⟩; refine ⟨_, rfl, ?_⟩; have n0_ := Aside0.mk (Kd.V_elder' (by (with_reducible repeat (first | apply Kd.V_alloc | apply Kd.V_drewN | apply Kd.V_drew)); exact (Kd.V_mono (Kd.V_far (p := ⟨gb221, 1, none⟩) (Kd.V_far (p := ⟨gb221, 0, none⟩) (Kd.V_mono HO2.out (fun k_ hk => (⟨hk, hk.2⟩ : _ ∧ k_ ≠ gb221))) (fun _ hk => hk.2) (.slice Ao14 t215.length co14)) (fun _ hk => hk.2) (.slice Ao16 t218.length co16)) (fun _ h_ => h_.1))) (Kd.R_base ho0) hb); have n1_ := Aside0.mk (Kd.R_elder' (by (with_reducible repeat (first | apply Kd.R_alloc | apply Kd.R_drewN | apply Kd.R_drew)); exact (Kd.R_mono (Kd.R_far (p := ⟨gb221, 1, none⟩) (Kd.R_far (p := ⟨gb221, 0, none⟩) (Kd.R_types HO217.out BK221.out (by decide)) (fun _ hk => hk.2) (.slice Ao14 t215.length co14)) (fun _ hk => hk.2) (.slice Ao16 t218.length co16)) (fun _ h_ => h_.1))) (Kd.R_base ho0) hb); have n2_ := Aside0.mk (Kd.R_elder' (by (with_reducible repeat (first | apply Kd.R_alloc | apply Kd.R_drewN | apply Kd.R_drew)); exact (Kd.R_mono (Kd.R_far (p := ⟨gb221, 1, none⟩) (Kd.R_far (p := ⟨gb221, 0, none⟩) (Kd.R_types HO220.out BK221.out (by decide)) (fun _ hk => hk.2) (.slice Ao14 t215.length co14)) (fun _ hk => hk.2) (.slice Ao16 t218.length co16)) (fun _ h_ => h_.1))) (Kd.R_base ho0) hb); have n3_ := Aside0.mk (Kd.R_lower (Kd.R_new' (Kd.R_new' (Kd.R_newM (M := fun k_ => (w.heap.size ≤ k_)) ho0 (below_size (by repeat (first | (with_reducible first | exact HB.out | apply below_alloc | apply pw_below_drewN | apply below_drew1 | refine below_set ?_ GE221.out) | exact HB.out))) (fun k_ h_ => h_)) (Kd.R_lt (by (with_reducible repeat (first | apply Kd.R_alloc | apply Kd.R_drewN | apply Kd.R_drew)); exact (Kd.R_mono (Kd.R_far (p := ⟨gb221, 1, none⟩) (Kd.R_far (p := ⟨gb221, 0, none⟩) (Kd.R_types HO217.out BK221.out (by decide)) (fun _ hk => hk.2) (.slice Ao14 t215.length co14)) (fun _ hk => hk.2) (.slice Ao16 t218.length co16)) (fun _ h_ => h_.1))))) (Kd.R_lt (by (with_reducible repeat (first | apply Kd.R_alloc | apply Kd.R_drewN | apply Kd.R_drew)); exact (Kd.R_mono (Kd.R_far (p := ⟨gb221, 1, none⟩) (Kd.R_far (p := ⟨gb221, 0, none⟩) (Kd.R_types HO220.out BK221.out (by decide)) (fun _ hk => hk.2) (.slice Ao14 t215.length co14)) (fun _ hk => hk.2) (.slice Ao16 t218.length co16)) (fun _ h_ => h_.1))))) (below_size (by repeat (first | (with_reducible first | exact HB.out | apply below_alloc | apply pw_below_drewN | apply below_drew1 | refine below_set ?_ GE221.out) | exact HB.out)))); have n4_ := Aside0.mk (blk_below (g := gb221) (o := .cells #[.slice Ao14 t215.length co14, .slice Ao16 t218.length co16] 42 (0, 0)) (by (with_reducible repeat (first | refine blk_drewN ?_ _ | refine blk_drew ?_ | refine blk_alloc ?_ _)); refine blk_put (cs := #[.slice Ao14 t215.length co14, .slice none 0 0]) ?_ 1 _ rfl; (with_reducible repeat (first | refine blk_drewN ?_ _ | refine blk_drew ?_ | refine blk_alloc ?_ _)); refine blk_put (cs := #[.slice none 0 0, .slice none 0 0]) ?_ 0 _ rfl; (with_reducible repeat (first | refine blk_drewN ?_ _ | refine blk_drew ?_ | refine blk_alloc ?_ _)); exact BK221.out) hb); have n5_ := Aside0.mk (below_step (by repeat (first | (with_reducible first | exact HB.out | apply below_alloc | apply pw_below_drewN | apply below_drew1 | refine below_set ?_ GE221.out) | exact HB.out)) hb); clear HO2; clear HO217; clear HO220; clear BK221; clear HB; have HO2 := n0_; have HO217 := n1_; have HO220 := n2_; have HO224 := n3_; have BK221 := n4_; have HB := n5_; clear n0_ n1_ n2_ n3_ n4_ n5_; (try clear hb); (try clear hb2); (try clear hk); (try clear hi); (try clear ho0); obtain ⟨Ao18, co18, eo18⟩ := Kd.R_slice HO224.out; subst eo18) | ((with_reducible refine gate_dst (N := 31) rfl ?_); refine Kd.N_lit (Kd.slice 3 (Kd.int .i64)) _ 22 ?hg (N' := 31) ?hd (xs := ([l2, t222] : List (List Int))) (inner := [.slice A2 l2.length c2, .slice Ao18 t222.length co18]) (ok := (fun k_ => (P2_ k_ ∨ w.heap.size ≤ k_) ∧ some k_ ≠ (.slice Ao14 t215.length co14 : Value).ownBlock ∧ some k_ ≠ (.slice Ao16 t218.length co16 : Value).ownBlock ∧ k_ ≠ gb221)) (okp := (fun k_ => (P2_ k_ ∨ w.heap.size ≤ k_) ∧ some k_ ≠ (.slice Ao14 t215.length co14 : Value).ownBlock ∧ some k_ ≠ (.slice Ao16 t218.length co16 : Value).ownBlock ∧ k_ ≠ gb221)) ?hr ?hp (fun _ hk => hk) ((show ∀ k_, w17.heap.size ≤ k_ → (fun k_ => (P2_ k_ ∨ w.heap.size ≤ k_) ∧ some k_ ≠ (.slice Ao14 t215.length co14 : Value).ownBlock ∧ some k_ ≠ (.slice Ao16 t218.length co16 : Value).ownBlock ∧ k_ ≠ gb221) k_ from fun k_ hk => ⟨(.inr (Nat.le_trans (below_size (by repeat (first | (with_reducible first | exact HB.out | apply below_alloc | apply pw_below_drewN | apply below_drew1 | refine below_set ?_ GE221.out) | exact HB.out))) hk)), Kd.fresh' (Kd.R_lt (by (with_reducible repeat (first | apply Kd.R_alloc | apply Kd.R_drewN | apply Kd.R_drew)); exact HO217.out)) k_ hk, Kd.fresh' (Kd.R_lt (by (with_reducible repeat (first | apply Kd.R_alloc | apply Kd.R_drewN | apply Kd.R_drew)); exact HO220.out)) k_ hk, Kd.freshB (g := gb221) (o := .cells #[.slice Ao14 t215.length co14, .slice Ao16 t218.length co16] 42 (0, 0)) (by (with_reducible repeat (first | refine blk_drewN ?_ _ | refine blk_drew ?_ | refine blk_alloc ?_ _)); exact BK221.out) k_ hk⟩) _ (Nat.le_refl _)) (Below.refl _ _) (Nat.le_refl _) (by simp) ?_; (case hd => rfl); (case hg => rfl); (case hr => first | (go_simp; done) | (go_simp; rfl)); (case hp => exact (Reps.one (show Kd.FK (Kd.slice 3 (Kd.int .i64)) _ _ l2 [.slice A2 l2.length c2] from (Kd.FK_slice_mk (Kd.V_reads' (Kd.V_mono (ok' := (fun k_ => (P2_ k_ ∨ w.heap.size ≤ k_) ∧ some k_ ≠ (.slice Ao14 t215.length co14 : Value).ownBlock ∧ some k_ ≠ (.slice Ao16 t218.length co16 : Value).ownBlock ∧ k_ ≠ gb221)) (HO2.out) (fun k_ hk => ⟨hk.1.1.1.1, ⟨hk.1.1.1.2, ⟨hk.1.1.2, hk.1.2⟩⟩⟩))).2.1 (Kd.V_F (Kd.V_mono (ok' := (fun k_ => (P2_ k_ ∨ w.heap.size ≤ k_) ∧ some k_ ≠ (.slice Ao14 t215.length co14 : Value).ownBlock ∧ some k_ ≠ (.slice Ao16 t218.length co16 : Value).ownBlock ∧ k_ ≠ gb221)) (HO2.out) (fun k_ hk => ⟨hk.1.1.1.1, ⟨hk.1.1.1.2, ⟨hk.1.1.2, hk.1.2⟩⟩⟩))))) (Reps.one (show Kd.FK (Kd.slice 3 (Kd.int .i64)) _ _ t222 [.slice Ao18 t222.length co18] from (Kd.FK_slice_mk (Kd.R_reads' (Kd.R_mono (ok' := (fun k_ => (P2_ k_ ∨ w.heap.size ≤ k_) ∧ some k_ ≠ (.slice Ao14 t215.length co14 : Value).ownBlock ∧ some k_ ≠ (.slice Ao16 t218.length co16 : Value).ownBlock ∧ k_ ≠ gb221)) (Kd.R_types (HO224.out) BK221.out (by decide)) (fun k_ hk => ⟨(.inr (hk.1.1.1.1)), ⟨hk.1.1.2, ⟨hk.1.2, hk.2⟩⟩⟩))).2.1 (Kd.R_F (Kd.R_mono (ok' := (fun k_ => (P2_ k_ ∨ w.heap.size ≤ k_) ∧ some k_ ≠ (.slice Ao14 t215.length co14 : Value).ownBlock ∧ some k_ ≠ (.slice Ao16 t218.length co16 : Value).ownBlock ∧ k_ ≠ gb221)) (Kd.R_types (HO224.out) BK221.out (by decide)) (fun k_ hk => ⟨(.inr (hk.1.1.1.1)), ⟨hk.1.1.2, ⟨hk.1.2, hk.2⟩⟩⟩))))) (Reps.none _ _)))); intro v226 w19 ho20 hb hg_ hnew_; clear hg_ hnew_; (first | rw [← Ny225.out] at ho20 | (simp only [Int.reduceToNat] at ho20; rw [← Ny225.out] at ho20)); have n0_ := Aside0.mk (Kd.V_elder' (by (with_reducible repeat (first | apply Kd.V_alloc | apply Kd.V_drewN | apply Kd.V_drew)); exact HO2.out) (Kd.N_base ho20) hb); have n1_ := Aside0.mk (Kd.R_below (by (with_reducible repeat (first | apply Kd.R_alloc | apply Kd.R_drewN | apply Kd.R_drew)); exact HO217.out) hb); have n2_ := Aside0.mk (Kd.R_below (by (with_reducible repeat (first | apply Kd.R_alloc | apply Kd.R_drewN | apply Kd.R_drew)); exact HO220.out) hb); have n3_ := Aside0.mk (Kd.N_lower ho20 (below_size (by repeat (first | (with_reducible first | exact HB.out | apply below_alloc | apply pw_below_drewN | apply below_drew1 | refine below_set ?_ GE221.out) | exact HB.out)))); have n4_ := Aside0.mk (blk_below (g := gb221) (o := .cells #[.slice Ao14 t215.length co14, .slice Ao16 t218.length co16] 42 (0, 0)) (by (with_reducible repeat (first | refine blk_drewN ?_ _ | refine blk_drew ?_ | refine blk_alloc ?_ _)); exact BK221.out) hb); have n5_ := Aside0.mk (below_step (by repeat (first | (with_reducible first | exact HB.out | apply below_alloc | apply pw_below_drewN | apply below_drew1 | refine below_set ?_ GE221.out) | exact HB.out)) hb); clear HO2; clear HO217; clear HO220; clear BK221; clear HB; clear HO224; have HO2 := n0_; have HO217 := n1_; have HO220 := n2_; have HO227 := n3_; have BK221 := n4_; have HB := n5_; clear n0_ n1_ n2_ n3_ n4_ n5_; clear hb ho20))
      go_loopg [11] k (fun kq v11 w' => ∃ (x11_1 : Int), v11 = .int .i64 x11_1 ∧ Aside0 (synodallaw8_ConfSteps.l0 kq y225 x11_1 t215 t218 = some r) ∧ Aside0 (kq ≤ k) ∧ Aside0 (Kd.N (Kd.slice 3 (Kd.int .i64)) 22 w' w.heap.size (fun k_ => (P2_ k_ ∨ w.heap.size ≤ k_) ∧ some k_ ≠ ((.slice Ao14 t215.length co14) : Value).ownBlock ∧ some k_ ≠ ((.slice Ao16 t218.length co16) : Value).ownBlock ∧ k_ ≠ gb221) v226 y225) ∧ Aside0 (Kd.R (Kd.int .i64) 3 w' w.heap.size (fun k_ => (w.heap.size ≤ k_) ∧ some k_ ≠ ((.slice Ao16 t218.length co16) : Value).ownBlock) (.slice Ao14 t215.length co14) t215) ∧ Aside0 (Kd.R (Kd.int .i64) 3 w' w.heap.size (fun k_ => (w.heap.size ≤ k_) ∧ some k_ ≠ ((.slice Ao14 t215.length co14) : Value).ownBlock) (.slice Ao16 t218.length co16) t218) ∧ Aside0 (w'.heap[gb221]? = some (.cells #[(.slice Ao14 t215.length co14), (.slice Ao16 t218.length co16)] 42 (0, 0))) ∧ Aside0 (Below w.heap.size w w'))
      case atStart => exact ⟨(0), (by first | rfl | (simp; done) | (simp [*]; done)), H', ⟨Nat.le_refl _⟩, ⟨by (with_reducible repeat (first | apply Kd.N_alloc | apply Kd.N_drewN | apply Kd.N_drew)); exact HO227.out⟩, ⟨by (with_reducible repeat (first | apply Kd.R_alloc | apply Kd.R_drewN | apply Kd.R_drew)); exact Kd.R_mono HO217.out (fun _ hk => ⟨hk.1.1, hk.1.2⟩)⟩, ⟨by (with_reducible repeat (first | apply Kd.R_alloc | apply Kd.R_drewN | apply Kd.R_drew)); exact Kd.R_mono HO220.out (fun _ hk => ⟨hk.1.1, hk.1.2⟩)⟩, ⟨by (with_reducible repeat (first | refine blk_drewN ?_ _ | refine blk_drew ?_ | refine blk_alloc ?_ _)); exact BK221.out⟩, ⟨by repeat (first | (with_reducible first | exact HB.out | apply below_alloc | apply pw_below_drewN | apply below_drew1 | refine below_set ?_ GE221.out) | exact HB.out)⟩⟩
      case round =>
        clear H'
        try clear c2
        try clear p2
        try clear c6
        try clear c7
        try clear c7b0
        try clear c7b1
        try clear c8
        try clear c20
        try clear hcz15_0
        try clear hcz15_1
        try clear hfz15_0
        try clear hfz15_1
        obtain ⟨x11_1, rfl, HA, HK1, HO_10, HO_222000, HO_222001, BK221, HB⟩ := hrel
        cases gk with
        | zero => exact absurd HA.out (by simp [synodallaw8_ConfSteps.l0])
        | succ k1 =>
          have H := HA.out
          clear HA
          simp only [synodallaw8_ConfSteps.l0] at H
          by_cases c21 : x11_1 < 2
          · rw [if_pos c21] at H
            have c21b0 : decide (x11_1 < 2) = true := decide_eq_true c21
            clear c21
            by_cases c22 : 0 ≤ x11_1
            · rw [if_pos c22] at H
              have c22b0 : decide (0 ≤ x11_1) = true := decide_eq_true c22
              clear c22
              by_cases c23 : x11_1 < (y225.length : Int)
              · rw [if_pos c23] at H
                have c23b0 : decide (x11_1 < (y225.length : Int)) = true := decide_eq_true c23
                clear c23
                replace H := Option.bind_eq_some_iff.mp H
                obtain ⟨⟨t229, t232, t235⟩, A240, H⟩ := H
                replace H : ((synodalref8_Enter.f k1 t215 t218 (rd_L1 y225 x11_1)).bind fun bt238 => (if t235 = bt238.2.2 then ((synodalref8_Same.f k1 t229 t232 bt238.1 bt238.2.1).bind fun t246 => (synodallaw8_ConfSteps.j1 k1 y225 x11_1 (!t246) t215 t218)) else (synodallaw8_ConfSteps.j1 k1 y225 x11_1 true t215 t218))) = some r := H
                have A24 := Aside0.mk A240
                clear A240
                replace H := Option.bind_eq_some_iff.mp H
                obtain ⟨⟨t238, t241, t244⟩, A250, H⟩ := H
                replace H : (if t235 = t244 then ((synodalref8_Same.f k1 t229 t232 t238 t241).bind fun t246 => (synodallaw8_ConfSteps.j1 k1 y225 x11_1 (!t246) t215 t218)) else (synodallaw8_ConfSteps.j1 k1 y225 x11_1 true t215 t218)) = some r := H
                have A25 := Aside0.mk A250
                clear A250
                have HC26 := Aside0.mk H
                clear H
                try go_wp2
                have n0_ := Aside0.mk (Kd.N_drew HO_10.out)
                have n1_ := Aside0.mk (Kd.R_drew HO_222000.out)
                have n2_ := Aside0.mk (Kd.R_drew HO_222001.out)
                have n3_ := Aside0.mk (blk_drew BK221.out)
                have n4_ := Aside0.mk (below_drew1 HB.out)
                clear HO_10
                clear HO_222000
                clear HO_222001
                clear BK221
                clear HB
                have HO_10 := n0_
                have HO_222000 := n1_
                have HO_222001 := n2_
                have BK221 := n3_
                have HB := n4_
                clear n0_ n1_ n2_ n3_ n4_
                obtain ⟨Ao28, co28, eo28⟩ := Kd.N_slice HO_10.out
                (first | subst eo28 | (injection eo28 with f1_ f2_ f3_; have f4_ := f1_.symm; have f5_ := f3_.symm; clear f1_ f2_ f3_; subst f4_; subst f5_))
                have p228 : 0 ≤ (x11_1 : Int) := of_decide_eq_true (by first | (with_reducible assumption) | assumption)
                have q228 : x11_1 < (y225.length : Int) := of_decide_eq_true (by first | (with_reducible assumption) | assumption)
                obtain ⟨ad228, A228_0, c228_0, e228, hx228_0, hl228_0, hi228_0⟩ := at_L1 (Kd.N_reads' HO_10.out).2.2 x11_1 p228 q228
                cases e228
                obtain ⟨ce228, hce228, hMe228, hcc228⟩ := Kd.N_get HO_10.out [] x11_1 p228 (by first | exact q228 | exact of_decide_eq_true (by first | (with_reducible assumption) | assumption) | (have e_ := (Kd.N_reads' HO_10.out).1; omega))
                obtain ⟨ua228_0, uc228_0, rfl, ul228_0, ge228_0⟩ := Kd.FK_slice_open hMe228
                have hv228_0 := hcc228 0 _ rfl
                rw [Nat.add_zero, show ((Kd.slice 3 (Kd.int .i64))).sz = 1 from rfl, Nat.mul_one] at hv228_0
                replace hv228_0 := Option.some.inj (hv228_0.symm.trans hx228_0)
                injection hv228_0 with hva_ hvn_ hvc_
                rw [hva_] at ge228_0
                rw [hvc_] at ul228_0
                have HL228_0 := Aside0.mk (show Kd.V (Kd.int .i64) 3 _ w.heap.size _ _ (rd_L1 y225 x11_1) from Kd.V_mk ul228_0 ge228_0)
                clear hva_ hvn_ hvc_ ge228_0 ul228_0
                clear hcc228 hce228
                have HR228_0 := Aside0.mk hi228_0
                have HC228_0 := Aside0.mk hl228_0
                clear hi228_0 hl228_0
                replace p228 := eq_true p228
                replace q228 := eq_true q228
                refine start_ (n := 12) (S := fun w' => w'.cell? ⟨gb221, 0, none⟩ = some (.slice Ao14 t215.length co14) ∧ w'.cell? ⟨gb221, 1, none⟩ = some (.slice Ao16 t218.length co16) ∧ w'.cell? (ad228.add (x11_1).toNat) = some (.slice A228_0 (rd_L1 y225 x11_1).length c228_0)) (ds := []) #[false, false, false, false, false, false, false, false, false, false, false, false] (by kernel_rfl) rfl rfl ⟨(blk_cell BK221.out 0).trans rfl, (blk_cell BK221.out 1).trans rfl, hx228_0⟩ (fun hHeld => ?_); refine with_tabW synodallaw8_ConfSteps.tab10 synodallaw8_ConfSteps.bits10 (fun HT_ HW_ => ?_)
                generalize wr.drew = w27 at HO_10 HO_222000 HO_222001 BK221 HB HL228_0 HR228_0 hx228_0 hHeld ⊢
                refine pure_ (i := 1) (N := some 38) (v := ?_) (a' := ?_) #[false, true, false, false, false, false, false, false, false, false, false, false] rfl rfl (any_of HT_.out (by kernel_rfl)) (fun _ _ _ h => h) (Or.inl ⟨by rfl, ?_⟩) ?_ ?_
                rotate_left
                · intro w'
                  go_simp
                  with_reducible rfl
                rotate_left
                · simp only [Act.put, List.setIfInBounds_toArray, List.set_cons_zero, List.set_cons_succ, i64_w, i32_w]
                  rfl
                refine pure_ (i := 2) (N := some 39) (v := ?_) (a' := ?_) #[false, true, true, false, false, false, false, false, false, false, false, false] rfl rfl (any_of HT_.out (by kernel_rfl)) (fun _ _ _ h => h) (Or.inl ⟨by rfl, ?_⟩) ?_ ?_
                rotate_left
                · intro w'
                  go_simp
                  with_reducible rfl
                rotate_left
                · simp only [Act.put, List.setIfInBounds_toArray, List.set_cons_zero, List.set_cons_succ, i64_w, i32_w]
                  rfl
                refine pure_ (i := 3) (N := some 40) (v := ?_) (a' := ?_) #[false, true, true, true, false, false, false, false, false, false, false, false] rfl rfl (any_of HT_.out (by kernel_rfl)) (fun _ _ _ h => h) (Or.inl ⟨by rfl, ?_⟩) ?_ ?_
                rotate_left
                · intro w'
                  go_simp
                  with_reducible rfl
                rotate_left
                · simp only [Act.put, List.setIfInBounds_toArray, List.set_cons_zero, List.set_cons_succ, i64_w, i32_w]
                  rfl
                refine take_ (i := 0) (N := some 37) (v := ?_) (a' := ?_) #[true, true, true, true, false, false, false, false, false, false, false, false] rfl rfl (take_ofW HT_.out HW_.out (by kernel_rfl)) (fun _ _ _ h => h) (Or.inl ⟨by rfl, ?_⟩) hHeld ?_ ?_
                rotate_left
                · rintro w' ⟨s0, s1, s2⟩
                  go_simp
                  with_reducible rfl
                rotate_left
                · simp only [Act.put, List.setIfInBounds_toArray, List.set_cons_zero, List.set_cons_succ, i64_w, i32_w]
                  rfl
                refine take_ (i := 4) (N := some 41) (v := ?_) (a' := ?_) #[true, true, true, true, true, false, false, false, false, false, false, false] rfl rfl (take_ofW HT_.out HW_.out (by kernel_rfl)) (fun _ _ _ h => h) (Or.inl ⟨by rfl, ?_⟩) hHeld ?_ ?_
                rotate_left
                · rintro w' ⟨s0, s1, s2⟩
                  go_simp
                  with_reducible rfl
                rotate_left
                · simp only [Act.put, List.setIfInBounds_toArray, List.set_cons_zero, List.set_cons_succ, i64_w, i32_w]
                  rfl
                refine join_ (σ := Value × Value × Nat) 2 #[true, true, true, true, true, true, true, true, true, true, false, false] (fun s_ => [(42, .tuple #[.agg #[s_.1, s_.2.1], .int .i64 t235]), (12, .pointer (some ⟨s_.2.2, 0, none⟩)), (36, .tuple #[.agg #[s_.1, s_.2.1], .int .i64 t235]), (43, .agg #[s_.1, s_.2.1]), (44, .int .i64 t235)]) (fun s_ w' => (w'.cell? ⟨gb221, 0, none⟩ = some (.slice Ao14 t215.length co14) ∧ w'.cell? ⟨gb221, 1, none⟩ = some (.slice Ao16 t218.length co16) ∧ w'.cell? (ad228.add (x11_1).toNat) = some (.slice A228_0 (rd_L1 y225 x11_1).length c228_0)) ∧ (Kd.V (Kd.int .i64) 3 w' w.heap.size (fun k_ => (P2_ k_ ∨ w.heap.size ≤ k_) ∧ some k_ ≠ (s_.1 : Value).ownBlock ∧ some k_ ≠ (s_.2.1 : Value).ownBlock ∧ some k_ ≠ (.slice (some ad228) y225.length co28 : Value).ownBlock ∧ some k_ ≠ (.slice Ao14 t215.length co14 : Value).ownBlock ∧ some k_ ≠ (.slice Ao16 t218.length co16 : Value).ownBlock ∧ k_ ≠ gb221 ∧ k_ ≠ s_.2.2) (.slice A228_0 (rd_L1 y225 x11_1).length c228_0) (rd_L1 y225 x11_1)) ∧ (Kd.R (Kd.int .i64) 3 w' w.heap.size (fun k_ => (w.heap.size ≤ k_) ∧ some k_ ≠ (s_.2.1 : Value).ownBlock ∧ some k_ ≠ (.slice Ao14 t215.length co14 : Value).ownBlock ∧ some k_ ≠ (.slice Ao16 t218.length co16 : Value).ownBlock) s_.1 t229) ∧ (Kd.R (Kd.int .i64) 3 w' w.heap.size (fun k_ => (w.heap.size ≤ k_) ∧ some k_ ≠ (s_.1 : Value).ownBlock ∧ some k_ ≠ (.slice Ao14 t215.length co14 : Value).ownBlock ∧ some k_ ≠ (.slice Ao16 t218.length co16 : Value).ownBlock) s_.2.1 t232) ∧ (Kd.N (Kd.slice 3 (Kd.int .i64)) 22 w' w.heap.size (fun k_ => (P2_ k_ ∨ w.heap.size ≤ k_) ∧ some k_ ≠ (s_.1 : Value).ownBlock ∧ some k_ ≠ (s_.2.1 : Value).ownBlock ∧ some k_ ≠ (.slice Ao14 t215.length co14 : Value).ownBlock ∧ some k_ ≠ (.slice Ao16 t218.length co16 : Value).ownBlock ∧ k_ ≠ gb221 ∧ k_ ≠ s_.2.2) (.slice (some ad228) y225.length co28) y225) ∧ (Kd.R (Kd.int .i64) 3 w' w.heap.size (fun k_ => (w.heap.size ≤ k_) ∧ some k_ ≠ (s_.1 : Value).ownBlock ∧ some k_ ≠ (s_.2.1 : Value).ownBlock ∧ some k_ ≠ (.slice Ao16 t218.length co16 : Value).ownBlock) (.slice Ao14 t215.length co14) t215) ∧ (Kd.R (Kd.int .i64) 3 w' w.heap.size (fun k_ => (w.heap.size ≤ k_) ∧ some k_ ≠ (s_.1 : Value).ownBlock ∧ some k_ ≠ (s_.2.1 : Value).ownBlock ∧ some k_ ≠ (.slice Ao14 t215.length co14 : Value).ownBlock) (.slice Ao16 t218.length co16) t218) ∧ (w'.heap[gb221]? = some (.cells #[.slice Ao14 t215.length co14, .slice Ao16 t218.length co16] 42 (0, 0))) ∧ (w'.heap[s_.2.2]? = some (.cells #[.slice none 0 0, .slice none 0 0] 42 (0, 0))) ∧ (w.heap.size ≤ s_.2.2) ∧ (w.heap.size ≤ s_.2.2) ∧ (gb221 ≠ s_.2.2) ∧ (s_.2.2 ≠ gb221) ∧ (Below w.heap.size w w')) ?_ ?_
                rotate_left
                · intro hCont
                  refine two_ (i := 5) (j := 9) (Ni := some 42) (Nj := some 12) #[true, true, true, true, true, true, false, false, false, false, false, false] #[true, true, true, true, true, false, false, false, false, true, false, false] rfl rfl rfl rfl (two_of HT_.out (by kernel_rfl)) (by decide) (by decide) (fun K hK => ?_) (fun K hK => ?_)
                  · skip
                    refine goes_ Try.func28 (by kernel_rfl) rfl #[.agg #[.slice Ao14 t215.length co14, .slice Ao16 t218.length co16], .slice A228_0 (rd_L1 y225 x11_1).length c228_0] (by rfl) rfl rfl (by (try simp only [List.map_toArray, List.map_cons, List.map_nil]); first | done | rfl | (simp only [List.length_drop, List.length_take]; rfl)) ?_
                    with_reducible refine (conf_Enter.calls k1 _ _ t215 _ _ t218 _ _ (rd_L1 y225 x11_1) t229 t232 t235 _ ?side1 ?side2 ?side3 ?side4 ?side5 ?side6 A24.out).mono ?_
                    (case side1 => repeat (first | exact (Kd.R_reads' HO_222000.out).2.2 | (with_reducible refine Kd.C_alloc ?_ _) | (with_reducible refine Kd.C_drewN ?_ _) | (with_reducible refine Kd.C_drew ?_)))
                    (case side2 => exact (Kd.R_reads' HO_222000.out).2.1)
                    (case side3 => repeat (first | exact (Kd.R_reads' HO_222001.out).2.2 | (with_reducible refine Kd.C_alloc ?_ _) | (with_reducible refine Kd.C_drewN ?_ _) | (with_reducible refine Kd.C_drew ?_)))
                    (case side4 => exact (Kd.R_reads' HO_222001.out).2.1)
                    (case side5 => repeat (first | exact (by repeat (first | (with_reducible exact HR228_0.out) | (with_reducible refine Kd.C_alloc ?_ _) | (with_reducible refine Kd.C_drewN ?_ _) | (with_reducible refine Kd.C_drew ?_) | exact HR228_0.out)) | (with_reducible refine Kd.C_alloc ?_ _) | (with_reducible refine Kd.C_drewN ?_ _) | (with_reducible refine Kd.C_drew ?_)))
                    (case side6 => exact HC228_0.out)
                    rintro e w29 ⟨v230, v233, rfl, ho0, ho1, hb⟩
                    have HS2_ := (hb.cell (World.block_lt_of_cell? _ _ (hHeld.2.2))).trans (hHeld.2.2)
                    refine ⟨_, rfl, ?_⟩
                    have n0_ := Aside0.mk (Kd.N_mono (Kd.N_told (Kd.N_told (Kd.N_old (by (with_reducible repeat (first | apply Kd.N_alloc | apply Kd.N_drewN | apply Kd.N_drew)); exact HO_10.out) hb) (Kd.R_base ho0)) (Kd.R_base ho1)) (fun _ h_ => h_.1))
                    have n1_ := Aside0.mk (Kd.R_mono (Kd.R_told (Kd.R_told (Kd.R_old (by (with_reducible repeat (first | apply Kd.R_alloc | apply Kd.R_drewN | apply Kd.R_drew)); exact HO_222000.out) hb) (Kd.R_base ho0)) (Kd.R_base ho1)) (fun _ h_ => h_.1))
                    have n2_ := Aside0.mk (Kd.R_mono (Kd.R_told (Kd.R_told (Kd.R_old (by (with_reducible repeat (first | apply Kd.R_alloc | apply Kd.R_drewN | apply Kd.R_drew)); exact HO_222001.out) hb) (Kd.R_base ho0)) (Kd.R_base ho1)) (fun _ h_ => h_.1))
                    have n3_ := Aside0.mk (Kd.V_mono (Kd.V_told (Kd.V_told (Kd.V_old (by (with_reducible repeat (first | apply Kd.V_alloc | apply Kd.V_drewN | apply Kd.V_drew)); exact HL228_0.out) hb) (Kd.R_base ho0)) (Kd.R_base ho1)) (fun _ h_ => h_.1))
                    have n4_ := Aside0.mk (Kd.R_lower (Kd.R_new' (Kd.R_new' (Kd.R_newM (M := fun k_ => (w.heap.size ≤ k_)) ho0 (below_size (by repeat (first | (with_reducible first | exact HB.out | apply below_alloc | apply pw_below_drewN | apply below_drew1 | refine below_set ?_ GE221.out) | exact HB.out))) (fun k_ h_ => h_)) (Kd.R_lt (by (with_reducible repeat (first | apply Kd.R_alloc | apply Kd.R_drewN | apply Kd.R_drew)); exact HO_222000.out))) (Kd.R_lt (by (with_reducible repeat (first | apply Kd.R_alloc | apply Kd.R_drewN | apply Kd.R_drew)); exact HO_222001.out))) (below_size (by repeat (first | (with_reducible first | exact HB.out | apply below_alloc | apply pw_below_drewN | apply below_drew1 | refine below_set ?_ GE221.out) | exact HB.out))))
                    have n5_ := Aside0.mk (Kd.R_lower (Kd.R_new' (Kd.R_new' (Kd.R_newM (M := fun k_ => (w.heap.size ≤ k_)) ho1 (below_size (by repeat (first | (with_reducible first | exact HB.out | apply below_alloc | apply pw_below_drewN | apply below_drew1 | refine below_set ?_ GE221.out) | exact HB.out))) (fun k_ h_ => h_)) (Kd.R_lt (by (with_reducible repeat (first | apply Kd.R_alloc | apply Kd.R_drewN | apply Kd.R_drew)); exact HO_222000.out))) (Kd.R_lt (by (with_reducible repeat (first | apply Kd.R_alloc | apply Kd.R_drewN | apply Kd.R_drew)); exact HO_222001.out))) (below_size (by repeat (first | (with_reducible first | exact HB.out | apply below_alloc | apply pw_below_drewN | apply below_drew1 | refine below_set ?_ GE221.out) | exact HB.out))))
                    have n6_ := Aside0.mk (blk_below (g := gb221) (o := .cells #[.slice Ao14 t215.length co14, .slice Ao16 t218.length co16] 42 (0, 0)) (by (with_reducible repeat (first | refine blk_drewN ?_ _ | refine blk_drew ?_ | refine blk_alloc ?_ _)); exact BK221.out) hb)
                    have n7_ := Aside0.mk (Kd.C_below (by repeat (first | (with_reducible exact HR228_0.out) | (with_reducible refine Kd.C_alloc ?_ _) | (with_reducible refine Kd.C_drewN ?_ _) | (with_reducible refine Kd.C_drew ?_) | exact HR228_0.out)) hb)
                    have n8_ := Aside0.mk (below_step (by repeat (first | (with_reducible first | exact HB.out | apply below_alloc | apply pw_below_drewN | apply below_drew1 | refine below_set ?_ GE221.out) | exact HB.out)) hb)
                    clear HO_10
                    clear HO_222000
                    clear HO_222001
                    clear HL228_0
                    clear BK221
                    clear HR228_0
                    clear HB
                    have HO_10 := n0_
                    have HO_222000 := n1_
                    have HO_222001 := n2_
                    have HL228_0 := n3_
                    have HO231 := n4_
                    have HO234 := n5_
                    have BK221 := n6_
                    have HR228_0 := n7_
                    have HB := n8_
                    clear n0_ n1_ n2_ n3_ n4_ n5_ n6_ n7_ n8_
                    (try clear hb)
                    (try clear hb2)
                    (try clear hk)
                    (try clear hi)
                    (try clear ho0)
                    (try clear ho1)
                    refine hK.out _ _ ⟨(blk_cell BK221.out 0).trans rfl, (blk_cell BK221.out 1).trans rfl, HS2_⟩ (fun hHeld => ?_)
                    clear hK K
                    refine norm_ (a' := ?_) ?_ ?_
                    rotate_left
                    · show Act.put _ (some 42) _ = _
                      simp only [Act.put, List.setIfInBounds_toArray, List.set_cons_zero, List.set_cons_succ, i64_w, i32_w]
                      rfl
                    refine pure_ (i := 6) (N := some 36) (v := ?_) (a' := ?_) #[true, true, true, true, true, true, true, false, false, false, false, false] rfl rfl (any_of HT_.out (by kernel_rfl)) (fun _ _ _ h => h) (Or.inl ⟨by rfl, ?_⟩) ?_ ?_
                    rotate_left
                    · intro w'
                      go_simp
                      with_reducible rfl
                    rotate_left
                    · simp only [Act.put, List.setIfInBounds_toArray, List.set_cons_zero, List.set_cons_succ, i64_w, i32_w]
                      rfl
                    refine pure_ (i := 7) (N := some 43) (v := ?_) (a' := ?_) #[true, true, true, true, true, true, true, true, false, false, false, false] rfl rfl (any_of HT_.out (by kernel_rfl)) (fun _ _ _ h => h) (Or.inl ⟨by rfl, ?_⟩) ?_ ?_
                    rotate_left
                    · intro w'
                      go_simp
                      with_reducible rfl
                    rotate_left
                    · simp only [Act.put, List.setIfInBounds_toArray, List.set_cons_zero, List.set_cons_succ, i64_w, i32_w]
                      rfl
                    refine pure_ (i := 8) (N := some 44) (v := ?_) (a' := ?_) #[true, true, true, true, true, true, true, true, true, false, false, false] rfl rfl (any_of HT_.out (by kernel_rfl)) (fun _ _ _ h => h) (Or.inl ⟨by rfl, ?_⟩) ?_ ?_
                    rotate_left
                    · intro w'
                      go_simp
                      with_reducible rfl
                    rotate_left
                    · simp only [Act.put, List.setIfInBounds_toArray, List.set_cons_zero, List.set_cons_succ, i64_w, i32_w]
                      rfl
                    refine one_ (i := 9) (N := some 12) #[true, true, true, true, true, true, true, true, true, true, false, false] rfl rfl (one_of HT_.out (by kernel_rfl)) (by decide) (fun K hK => ?_)
                    refine box_step ?hg (N := 12) ?hd (cs := #[.slice none 0 0, .slice none 0 0]) (t := 42) ?hr ?_; (case hd => rfl); (case hg => rfl); (case hr => first | (go_simp; done) | (go_simp; rfl))
                    intro gb236 hg w30 hbox hb
                    have HS2_ := (hb.cell (World.block_lt_of_cell? _ _ (hHeld.2.2))).trans (hHeld.2.2)
                    have n0_ := Aside0.mk (Kd.N_below (Kd.N_elderB (by (with_reducible repeat (first | apply Kd.N_alloc | apply Kd.N_drewN | apply Kd.N_drew)); exact HO_10.out) gb236 (Nat.le_of_eq hg.symm)) hb)
                    have n1_ := Aside0.mk (Kd.R_below (by (with_reducible repeat (first | apply Kd.R_alloc | apply Kd.R_drewN | apply Kd.R_drew)); exact HO_222000.out) hb)
                    have n2_ := Aside0.mk (Kd.R_below (by (with_reducible repeat (first | apply Kd.R_alloc | apply Kd.R_drewN | apply Kd.R_drew)); exact HO_222001.out) hb)
                    have n3_ := Aside0.mk (Kd.V_below (Kd.V_elderB (by (with_reducible repeat (first | apply Kd.V_alloc | apply Kd.V_drewN | apply Kd.V_drew)); exact HL228_0.out) gb236 (Nat.le_of_eq hg.symm)) hb)
                    have n4_ := Aside0.mk (Kd.R_below (by (with_reducible repeat (first | apply Kd.R_alloc | apply Kd.R_drewN | apply Kd.R_drew)); exact HO231.out) hb)
                    have n5_ := Aside0.mk (Kd.R_below (by (with_reducible repeat (first | apply Kd.R_alloc | apply Kd.R_drewN | apply Kd.R_drew)); exact HO234.out) hb)
                    have n6_ := Aside0.mk (blk_below (g := gb221) (o := .cells #[.slice Ao14 t215.length co14, .slice Ao16 t218.length co16] 42 (0, 0)) (by (with_reducible repeat (first | refine blk_drewN ?_ _ | refine blk_drew ?_ | refine blk_alloc ?_ _)); exact BK221.out) hb)
                    have n7_ := Aside0.mk (Kd.C_below (by repeat (first | (with_reducible exact HR228_0.out) | (with_reducible refine Kd.C_alloc ?_ _) | (with_reducible refine Kd.C_drewN ?_ _) | (with_reducible refine Kd.C_drew ?_) | exact HR228_0.out)) hb)
                    have n8_ := Aside0.mk (below_step (by repeat (first | (with_reducible first | exact HB.out | apply below_alloc | apply pw_below_drewN | apply below_drew1 | refine below_set ?_ GE221.out) | exact HB.out)) hb)
                    have n9_ := Aside0.mk (hbox)
                    have n10_ := Aside0.mk ((by rw [hg]; exact (below_size (by repeat (first | (with_reducible first | exact HB.out | apply below_alloc | apply pw_below_drewN | apply below_drew1 | refine below_set ?_ GE221.out) | exact HB.out))) : w.heap.size ≤ gb236))
                    have n11_ := Aside0.mk ((by rw [hg]; exact (below_size (by repeat (first | (with_reducible first | exact HB.out | apply below_alloc | apply pw_below_drewN | apply below_drew1 | refine below_set ?_ GE221.out) | exact HB.out))) : w.heap.size ≤ gb236))
                    have n12_ := Aside0.mk ((by rw [hg]; exact Nat.ne_of_lt (blk_lt (g := gb221) (o := .cells #[.slice Ao14 t215.length co14, .slice Ao16 t218.length co16] 42 (0, 0)) (by (with_reducible repeat (first | refine blk_drewN ?_ _ | refine blk_drew ?_ | refine blk_alloc ?_ _)); exact BK221.out)) : gb221 ≠ gb236))
                    have n13_ := Aside0.mk ((by rw [hg]; exact Nat.ne_of_gt (blk_lt (g := gb221) (o := .cells #[.slice Ao14 t215.length co14, .slice Ao16 t218.length co16] 42 (0, 0)) (by (with_reducible repeat (first | refine blk_drewN ?_ _ | refine blk_drew ?_ | refine blk_alloc ?_ _)); exact BK221.out)) : gb236 ≠ gb221))
                    clear HO_10
                    clear HO_222000
                    clear HO_222001
                    clear HL228_0
                    clear HO231
                    clear HO234
                    clear BK221
                    clear HR228_0
                    clear HB
                    have HO_10 := n0_
                    have HO_222000 := n1_
                    have HO_222001 := n2_
                    have HL228_0 := n3_
                    have HO231 := n4_
                    have HO234 := n5_
                    have BK221 := n6_
                    have HR228_0 := n7_
                    have HB := n8_
                    have BK236 := n9_
                    have GW236 := n10_
                    have GE236 := n11_
                    have NB221_236 := n12_
                    have NB236_221 := n13_
                    clear n0_ n1_ n2_ n3_ n4_ n5_ n6_ n7_ n8_ n9_ n10_ n11_ n12_ n13_
                    clear hb hbox hg
                    refine hK.out _ _ ⟨(blk_cell BK221.out 0).trans rfl, (blk_cell BK221.out 1).trans rfl, HS2_⟩ (fun hHeld => ?_)
                    clear hK K
                    refine norm_ (a' := ?_) ?_ ?_
                    rotate_left
                    · show Act.put _ (some 12) _ = _
                      simp only [Act.put, List.setIfInBounds_toArray, List.set_cons_zero, List.set_cons_succ, i64_w, i32_w]
                      rfl
                    exact norm_ (by simp only [putAll, Act.put, List.setIfInBounds_toArray, List.set_cons_zero, List.set_cons_succ]) (hCont (v230, v233, gb236) _ ⟨hHeld, (by (with_reducible repeat (first | apply Kd.V_alloc | apply Kd.V_drewN | apply Kd.V_drew)); exact Kd.V_mono HL228_0.out (fun _ hk => ⟨hk.1.1.1.1.1, ⟨hk.1.1.2, ⟨hk.1.2, ⟨hk.1.1.1.2, ⟨hk.1.1.1.1.2.1, ⟨hk.1.1.1.1.2.2.1, ⟨hk.1.1.1.1.2.2.2, hk.2⟩⟩⟩⟩⟩⟩⟩)), (by (with_reducible repeat (first | apply Kd.R_alloc | apply Kd.R_drewN | apply Kd.R_drew)); exact Kd.R_mono HO231.out (fun _ hk => ⟨hk.1.1.1, ⟨hk.1.1.2, ⟨hk.1.2, hk.2⟩⟩⟩)), (by (with_reducible repeat (first | apply Kd.R_alloc | apply Kd.R_drewN | apply Kd.R_drew)); exact Kd.R_mono HO234.out (fun _ hk => ⟨hk.1.1.1, ⟨hk.1.1.2, ⟨hk.1.2, hk.2⟩⟩⟩)), (by (with_reducible repeat (first | apply Kd.N_alloc | apply Kd.N_drewN | apply Kd.N_drew)); exact Kd.N_mono HO_10.out (fun _ hk => ⟨hk.1.1.1.1, ⟨hk.1.1.2, ⟨hk.1.2, ⟨hk.1.1.1.2.1, ⟨hk.1.1.1.2.2.1, ⟨hk.1.1.1.2.2.2, hk.2⟩⟩⟩⟩⟩⟩)), (by (with_reducible repeat (first | apply Kd.R_alloc | apply Kd.R_drewN | apply Kd.R_drew)); exact Kd.R_mono HO_222000.out (fun _ hk => ⟨hk.1.1.1, ⟨hk.1.2, ⟨hk.2, hk.1.1.2⟩⟩⟩)), (by (with_reducible repeat (first | apply Kd.R_alloc | apply Kd.R_drewN | apply Kd.R_drew)); exact Kd.R_mono HO_222001.out (fun _ hk => ⟨hk.1.1.1, ⟨hk.1.2, ⟨hk.2, hk.1.1.2⟩⟩⟩)), (by (with_reducible repeat (first | refine blk_drewN ?_ _ | refine blk_drew ?_ | refine blk_alloc ?_ _)); exact BK221.out), (by (with_reducible repeat (first | refine blk_drewN ?_ _ | refine blk_drew ?_ | refine blk_alloc ?_ _)); exact BK236.out), GW236.out, GE236.out, NB221_236.out, NB236_221.out, (by repeat (first | (with_reducible first | exact HB.out | apply below_alloc | apply pw_below_drewN | apply below_drew1 | refine below_set ?_ GE221.out | refine below_set ?_ GE236.out) | exact HB.out))⟩)
                  · skip
                    refine box_step ?hg (N := 12) ?hd (cs := #[.slice none 0 0, .slice none 0 0]) (t := 42) ?hr ?_; (case hd => rfl); (case hg => rfl); (case hr => first | (go_simp; done) | (go_simp; rfl))
                    intro gb236 hg w29 hbox hb
                    have HS2_ := (hb.cell (World.block_lt_of_cell? _ _ (hHeld.2.2))).trans (hHeld.2.2)
                    have n0_ := Aside0.mk (Kd.N_below (Kd.N_elderB (by (with_reducible repeat (first | apply Kd.N_alloc | apply Kd.N_drewN | apply Kd.N_drew)); exact HO_10.out) gb236 (Nat.le_of_eq hg.symm)) hb)
                    have n1_ := Aside0.mk (Kd.R_below (by (with_reducible repeat (first | apply Kd.R_alloc | apply Kd.R_drewN | apply Kd.R_drew)); exact HO_222000.out) hb)
                    have n2_ := Aside0.mk (Kd.R_below (by (with_reducible repeat (first | apply Kd.R_alloc | apply Kd.R_drewN | apply Kd.R_drew)); exact HO_222001.out) hb)
                    have n3_ := Aside0.mk (Kd.V_below (Kd.V_elderB (by (with_reducible repeat (first | apply Kd.V_alloc | apply Kd.V_drewN | apply Kd.V_drew)); exact HL228_0.out) gb236 (Nat.le_of_eq hg.symm)) hb)
                    have n4_ := Aside0.mk (blk_below (g := gb221) (o := .cells #[.slice Ao14 t215.length co14, .slice Ao16 t218.length co16] 42 (0, 0)) (by (with_reducible repeat (first | refine blk_drewN ?_ _ | refine blk_drew ?_ | refine blk_alloc ?_ _)); exact BK221.out) hb)
                    have n5_ := Aside0.mk (Kd.C_below (by repeat (first | (with_reducible exact HR228_0.out) | (with_reducible refine Kd.C_alloc ?_ _) | (with_reducible refine Kd.C_drewN ?_ _) | (with_reducible refine Kd.C_drew ?_) | exact HR228_0.out)) hb)
                    have n6_ := Aside0.mk (below_step (by repeat (first | (with_reducible first | exact HB.out | apply below_alloc | apply pw_below_drewN | apply below_drew1 | refine below_set ?_ GE221.out) | exact HB.out)) hb)
                    have n7_ := Aside0.mk (hbox)
                    have n8_ := Aside0.mk ((by rw [hg]; exact (below_size (by repeat (first | (with_reducible first | exact HB.out | apply below_alloc | apply pw_below_drewN | apply below_drew1 | refine below_set ?_ GE221.out) | exact HB.out))) : w.heap.size ≤ gb236))
                    have n9_ := Aside0.mk ((by rw [hg]; exact (below_size (by repeat (first | (with_reducible first | exact HB.out | apply below_alloc | apply pw_below_drewN | apply below_drew1 | refine below_set ?_ GE221.out) | exact HB.out))) : w.heap.size ≤ gb236))
                    have n10_ := Aside0.mk ((by rw [hg]; exact Nat.ne_of_lt (blk_lt (g := gb221) (o := .cells #[.slice Ao14 t215.length co14, .slice Ao16 t218.length co16] 42 (0, 0)) (by (with_reducible repeat (first | refine blk_drewN ?_ _ | refine blk_drew ?_ | refine blk_alloc ?_ _)); exact BK221.out)) : gb221 ≠ gb236))
                    have n11_ := Aside0.mk ((by rw [hg]; exact Nat.ne_of_gt (blk_lt (g := gb221) (o := .cells #[.slice Ao14 t215.length co14, .slice Ao16 t218.length co16] 42 (0, 0)) (by (with_reducible repeat (first | refine blk_drewN ?_ _ | refine blk_drew ?_ | refine blk_alloc ?_ _)); exact BK221.out)) : gb236 ≠ gb221))
                    clear HO_10
                    clear HO_222000
                    clear HO_222001
                    clear HL228_0
                    clear BK221
                    clear HR228_0
                    clear HB
                    have HO_10 := n0_
                    have HO_222000 := n1_
                    have HO_222001 := n2_
                    have HL228_0 := n3_
                    have BK221 := n4_
                    have HR228_0 := n5_
                    have HB := n6_
                    have BK236 := n7_
                    have GW236 := n8_
                    have GE236 := n9_
                    have NB221_236 := n10_
                    have NB236_221 := n11_
                    clear n0_ n1_ n2_ n3_ n4_ n5_ n6_ n7_ n8_ n9_ n10_ n11_
                    clear hb hbox hg
                    refine hK.out _ _ ⟨(blk_cell BK221.out 0).trans rfl, (blk_cell BK221.out 1).trans rfl, HS2_⟩ (fun hHeld => ?_)
                    clear hK K
                    refine norm_ (a' := ?_) ?_ ?_
                    rotate_left
                    · show Act.put _ (some 12) _ = _
                      simp only [Act.put, List.setIfInBounds_toArray, List.set_cons_zero, List.set_cons_succ, i64_w, i32_w]
                      rfl
                    refine one_ (i := 5) (N := some 42) #[true, true, true, true, true, true, false, false, false, true, false, false] rfl rfl (one_of HT_.out (by kernel_rfl)) (by decide) (fun K hK => ?_)
                    refine goes_ Try.func28 (by kernel_rfl) rfl #[.agg #[.slice Ao14 t215.length co14, .slice Ao16 t218.length co16], .slice A228_0 (rd_L1 y225 x11_1).length c228_0] (by rfl) rfl rfl (by (try simp only [List.map_toArray, List.map_cons, List.map_nil]); first | done | rfl | (simp only [List.length_drop, List.length_take]; rfl)) ?_
                    with_reducible refine (conf_Enter.calls k1 _ _ t215 _ _ t218 _ _ (rd_L1 y225 x11_1) t229 t232 t235 _ ?side1 ?side2 ?side3 ?side4 ?side5 ?side6 A24.out).mono ?_
                    (case side1 => repeat (first | exact (Kd.R_reads' HO_222000.out).2.2 | (with_reducible refine Kd.C_alloc ?_ _) | (with_reducible refine Kd.C_drewN ?_ _) | (with_reducible refine Kd.C_drew ?_)))
                    (case side2 => exact (Kd.R_reads' HO_222000.out).2.1)
                    (case side3 => repeat (first | exact (Kd.R_reads' HO_222001.out).2.2 | (with_reducible refine Kd.C_alloc ?_ _) | (with_reducible refine Kd.C_drewN ?_ _) | (with_reducible refine Kd.C_drew ?_)))
                    (case side4 => exact (Kd.R_reads' HO_222001.out).2.1)
                    (case side5 => repeat (first | exact (by repeat (first | (with_reducible exact HR228_0.out) | (with_reducible refine Kd.C_alloc ?_ _) | (with_reducible refine Kd.C_drewN ?_ _) | (with_reducible refine Kd.C_drew ?_) | exact HR228_0.out)) | (with_reducible refine Kd.C_alloc ?_ _) | (with_reducible refine Kd.C_drewN ?_ _) | (with_reducible refine Kd.C_drew ?_)))
                    (case side6 => exact HC228_0.out)
                    rintro e w30 ⟨v230, v233, rfl, ho0, ho1, hb⟩
                    have HS2_ := (hb.cell (World.block_lt_of_cell? _ _ (hHeld.2.2))).trans (hHeld.2.2)
                    refine ⟨_, rfl, ?_⟩
                    have n0_ := Aside0.mk (Kd.N_mono (Kd.N_told (Kd.N_told (Kd.N_old (by (with_reducible repeat (first | apply Kd.N_alloc | apply Kd.N_drewN | apply Kd.N_drew)); exact HO_10.out) hb) (Kd.R_base ho0)) (Kd.R_base ho1)) (fun _ h_ => h_.1))
                    have n1_ := Aside0.mk (Kd.R_mono (Kd.R_told (Kd.R_told (Kd.R_old (by (with_reducible repeat (first | apply Kd.R_alloc | apply Kd.R_drewN | apply Kd.R_drew)); exact HO_222000.out) hb) (Kd.R_base ho0)) (Kd.R_base ho1)) (fun _ h_ => h_.1))
                    have n2_ := Aside0.mk (Kd.R_mono (Kd.R_told (Kd.R_told (Kd.R_old (by (with_reducible repeat (first | apply Kd.R_alloc | apply Kd.R_drewN | apply Kd.R_drew)); exact HO_222001.out) hb) (Kd.R_base ho0)) (Kd.R_base ho1)) (fun _ h_ => h_.1))
                    have n3_ := Aside0.mk (Kd.V_mono (Kd.V_told (Kd.V_told (Kd.V_old (by (with_reducible repeat (first | apply Kd.V_alloc | apply Kd.V_drewN | apply Kd.V_drew)); exact HL228_0.out) hb) (Kd.R_base ho0)) (Kd.R_base ho1)) (fun _ h_ => h_.1))
                    have n4_ := Aside0.mk (Kd.R_lower (Kd.R_new' (Kd.R_new' (Kd.R_newM (M := fun k_ => (w.heap.size ≤ k_)) ho0 (below_size (by repeat (first | (with_reducible first | exact HB.out | apply below_alloc | apply pw_below_drewN | apply below_drew1 | refine below_set ?_ GE221.out | refine below_set ?_ GE236.out) | exact HB.out))) (fun k_ h_ => h_)) (Kd.R_lt (by (with_reducible repeat (first | apply Kd.R_alloc | apply Kd.R_drewN | apply Kd.R_drew)); exact HO_222000.out))) (Kd.R_lt (by (with_reducible repeat (first | apply Kd.R_alloc | apply Kd.R_drewN | apply Kd.R_drew)); exact HO_222001.out))) (below_size (by repeat (first | (with_reducible first | exact HB.out | apply below_alloc | apply pw_below_drewN | apply below_drew1 | refine below_set ?_ GE221.out | refine below_set ?_ GE236.out) | exact HB.out))))
                    have n5_ := Aside0.mk (Kd.R_lower (Kd.R_new' (Kd.R_new' (Kd.R_newM (M := fun k_ => (w.heap.size ≤ k_)) ho1 (below_size (by repeat (first | (with_reducible first | exact HB.out | apply below_alloc | apply pw_below_drewN | apply below_drew1 | refine below_set ?_ GE221.out | refine below_set ?_ GE236.out) | exact HB.out))) (fun k_ h_ => h_)) (Kd.R_lt (by (with_reducible repeat (first | apply Kd.R_alloc | apply Kd.R_drewN | apply Kd.R_drew)); exact HO_222000.out))) (Kd.R_lt (by (with_reducible repeat (first | apply Kd.R_alloc | apply Kd.R_drewN | apply Kd.R_drew)); exact HO_222001.out))) (below_size (by repeat (first | (with_reducible first | exact HB.out | apply below_alloc | apply pw_below_drewN | apply below_drew1 | refine below_set ?_ GE221.out | refine below_set ?_ GE236.out) | exact HB.out))))
                    have n6_ := Aside0.mk (blk_below (g := gb221) (o := .cells #[.slice Ao14 t215.length co14, .slice Ao16 t218.length co16] 42 (0, 0)) (by (with_reducible repeat (first | refine blk_drewN ?_ _ | refine blk_drew ?_ | refine blk_alloc ?_ _)); exact BK221.out) hb)
                    have n7_ := Aside0.mk (Kd.C_below (by repeat (first | (with_reducible exact HR228_0.out) | (with_reducible refine Kd.C_alloc ?_ _) | (with_reducible refine Kd.C_drewN ?_ _) | (with_reducible refine Kd.C_drew ?_) | exact HR228_0.out)) hb)
                    have n8_ := Aside0.mk (blk_below (g := gb236) (o := .cells #[.slice none 0 0, .slice none 0 0] 42 (0, 0)) (by (with_reducible repeat (first | refine blk_drewN ?_ _ | refine blk_drew ?_ | refine blk_alloc ?_ _)); exact BK236.out) hb)
                    have n9_ := Aside0.mk (below_step (by repeat (first | (with_reducible first | exact HB.out | apply below_alloc | apply pw_below_drewN | apply below_drew1 | refine below_set ?_ GE221.out | refine below_set ?_ GE236.out) | exact HB.out)) hb)
                    clear HO_10
                    clear HO_222000
                    clear HO_222001
                    clear HL228_0
                    clear BK221
                    clear HR228_0
                    clear BK236
                    clear HB
                    have HO_10 := n0_
                    have HO_222000 := n1_
                    have HO_222001 := n2_
                    have HL228_0 := n3_
                    have HO231 := n4_
                    have HO234 := n5_
                    have BK221 := n6_
                    have HR228_0 := n7_
                    have BK236 := n8_
                    have HB := n9_
                    clear n0_ n1_ n2_ n3_ n4_ n5_ n6_ n7_ n8_ n9_
                    (try clear hb)
                    (try clear hb2)
                    (try clear hk)
                    (try clear hi)
                    (try clear ho0)
                    (try clear ho1)
                    refine hK.out _ _ ⟨(blk_cell BK221.out 0).trans rfl, (blk_cell BK221.out 1).trans rfl, HS2_⟩ (fun hHeld => ?_)
                    clear hK K
                    refine norm_ (a' := ?_) ?_ ?_
                    rotate_left
                    · show Act.put _ (some 42) _ = _
                      simp only [Act.put, List.setIfInBounds_toArray, List.set_cons_zero, List.set_cons_succ, i64_w, i32_w]
                      rfl
                    refine pure_ (i := 6) (N := some 36) (v := ?_) (a' := ?_) #[true, true, true, true, true, true, true, false, false, true, false, false] rfl rfl (any_of HT_.out (by kernel_rfl)) (fun _ _ _ h => h) (Or.inl ⟨by rfl, ?_⟩) ?_ ?_
                    rotate_left
                    · intro w'
                      go_simp
                      with_reducible rfl
                    rotate_left
                    · simp only [Act.put, List.setIfInBounds_toArray, List.set_cons_zero, List.set_cons_succ, i64_w, i32_w]
                      rfl
                    refine pure_ (i := 7) (N := some 43) (v := ?_) (a' := ?_) #[true, true, true, true, true, true, true, true, false, true, false, false] rfl rfl (any_of HT_.out (by kernel_rfl)) (fun _ _ _ h => h) (Or.inl ⟨by rfl, ?_⟩) ?_ ?_
                    rotate_left
                    · intro w'
                      go_simp
                      with_reducible rfl
                    rotate_left
                    · simp only [Act.put, List.setIfInBounds_toArray, List.set_cons_zero, List.set_cons_succ, i64_w, i32_w]
                      rfl
                    refine pure_ (i := 8) (N := some 44) (v := ?_) (a' := ?_) #[true, true, true, true, true, true, true, true, true, true, false, false] rfl rfl (any_of HT_.out (by kernel_rfl)) (fun _ _ _ h => h) (Or.inl ⟨by rfl, ?_⟩) ?_ ?_
                    rotate_left
                    · intro w'
                      go_simp
                      with_reducible rfl
                    rotate_left
                    · simp only [Act.put, List.setIfInBounds_toArray, List.set_cons_zero, List.set_cons_succ, i64_w, i32_w]
                      rfl
                    exact norm_ (by simp only [putAll, Act.put, List.setIfInBounds_toArray, List.set_cons_zero, List.set_cons_succ]) (hCont (v230, v233, gb236) _ ⟨hHeld, (by (with_reducible repeat (first | apply Kd.V_alloc | apply Kd.V_drewN | apply Kd.V_drew)); exact Kd.V_mono HL228_0.out (fun _ hk => ⟨hk.1.1.1.1.1, ⟨hk.1.2, ⟨hk.2, ⟨hk.1.1.1.2, ⟨hk.1.1.1.1.2.1, ⟨hk.1.1.1.1.2.2.1, ⟨hk.1.1.1.1.2.2.2, hk.1.1.2⟩⟩⟩⟩⟩⟩⟩)), (by (with_reducible repeat (first | apply Kd.R_alloc | apply Kd.R_drewN | apply Kd.R_drew)); exact Kd.R_mono HO231.out (fun _ hk => ⟨hk.1.1.1, ⟨hk.1.1.2, ⟨hk.1.2, hk.2⟩⟩⟩)), (by (with_reducible repeat (first | apply Kd.R_alloc | apply Kd.R_drewN | apply Kd.R_drew)); exact Kd.R_mono HO234.out (fun _ hk => ⟨hk.1.1.1, ⟨hk.1.1.2, ⟨hk.1.2, hk.2⟩⟩⟩)), (by (with_reducible repeat (first | apply Kd.N_alloc | apply Kd.N_drewN | apply Kd.N_drew)); exact Kd.N_mono HO_10.out (fun _ hk => ⟨hk.1.1.1.1, ⟨hk.1.2, ⟨hk.2, ⟨hk.1.1.1.2.1, ⟨hk.1.1.1.2.2.1, ⟨hk.1.1.1.2.2.2, hk.1.1.2⟩⟩⟩⟩⟩⟩)), (by (with_reducible repeat (first | apply Kd.R_alloc | apply Kd.R_drewN | apply Kd.R_drew)); exact Kd.R_mono HO_222000.out (fun _ hk => ⟨hk.1.1.1, ⟨hk.1.2, ⟨hk.2, hk.1.1.2⟩⟩⟩)), (by (with_reducible repeat (first | apply Kd.R_alloc | apply Kd.R_drewN | apply Kd.R_drew)); exact Kd.R_mono HO_222001.out (fun _ hk => ⟨hk.1.1.1, ⟨hk.1.2, ⟨hk.2, hk.1.1.2⟩⟩⟩)), (by (with_reducible repeat (first | refine blk_drewN ?_ _ | refine blk_drew ?_ | refine blk_alloc ?_ _)); exact BK221.out), (by (with_reducible repeat (first | refine blk_drewN ?_ _ | refine blk_drew ?_ | refine blk_alloc ?_ _)); exact BK236.out), GW236.out, GE236.out, NB221_236.out, NB236_221.out, (by repeat (first | (with_reducible first | exact HB.out | apply below_alloc | apply pw_below_drewN | apply below_drew1 | refine below_set ?_ GE221.out | refine below_set ?_ GE236.out) | exact HB.out))⟩)
                rintro ⟨v230, v233, gb236⟩ w31 ⟨hS_, h0_, h1_, h2_, h3_, h4_, h5_, h6_, h7_, h8_, h9_, h10_, h11_, h12_⟩
                have n0_ : Aside0 (Kd.V (Kd.int .i64) 3 w31 w.heap.size (fun k_ => (P2_ k_ ∨ w.heap.size ≤ k_) ∧ some k_ ≠ (v230 : Value).ownBlock ∧ some k_ ≠ (v233 : Value).ownBlock ∧ some k_ ≠ (.slice (some ad228) y225.length co28 : Value).ownBlock ∧ some k_ ≠ (.slice Ao14 t215.length co14 : Value).ownBlock ∧ some k_ ≠ (.slice Ao16 t218.length co16 : Value).ownBlock ∧ k_ ≠ gb221 ∧ k_ ≠ gb236) (.slice A228_0 (rd_L1 y225 x11_1).length c228_0) (rd_L1 y225 x11_1)) := ⟨h0_⟩
                have n1_ : Aside0 (Kd.R (Kd.int .i64) 3 w31 w.heap.size (fun k_ => (w.heap.size ≤ k_) ∧ some k_ ≠ (v233 : Value).ownBlock ∧ some k_ ≠ (.slice Ao14 t215.length co14 : Value).ownBlock ∧ some k_ ≠ (.slice Ao16 t218.length co16 : Value).ownBlock) v230 t229) := ⟨h1_⟩
                have n2_ : Aside0 (Kd.R (Kd.int .i64) 3 w31 w.heap.size (fun k_ => (w.heap.size ≤ k_) ∧ some k_ ≠ (v230 : Value).ownBlock ∧ some k_ ≠ (.slice Ao14 t215.length co14 : Value).ownBlock ∧ some k_ ≠ (.slice Ao16 t218.length co16 : Value).ownBlock) v233 t232) := ⟨h2_⟩
                have n3_ : Aside0 (Kd.N (Kd.slice 3 (Kd.int .i64)) 22 w31 w.heap.size (fun k_ => (P2_ k_ ∨ w.heap.size ≤ k_) ∧ some k_ ≠ (v230 : Value).ownBlock ∧ some k_ ≠ (v233 : Value).ownBlock ∧ some k_ ≠ (.slice Ao14 t215.length co14 : Value).ownBlock ∧ some k_ ≠ (.slice Ao16 t218.length co16 : Value).ownBlock ∧ k_ ≠ gb221 ∧ k_ ≠ gb236) (.slice (some ad228) y225.length co28) y225) := ⟨h3_⟩
                have n4_ : Aside0 (Kd.R (Kd.int .i64) 3 w31 w.heap.size (fun k_ => (w.heap.size ≤ k_) ∧ some k_ ≠ (v230 : Value).ownBlock ∧ some k_ ≠ (v233 : Value).ownBlock ∧ some k_ ≠ (.slice Ao16 t218.length co16 : Value).ownBlock) (.slice Ao14 t215.length co14) t215) := ⟨h4_⟩
                have n5_ : Aside0 (Kd.R (Kd.int .i64) 3 w31 w.heap.size (fun k_ => (w.heap.size ≤ k_) ∧ some k_ ≠ (v230 : Value).ownBlock ∧ some k_ ≠ (v233 : Value).ownBlock ∧ some k_ ≠ (.slice Ao14 t215.length co14 : Value).ownBlock) (.slice Ao16 t218.length co16) t218) := ⟨h5_⟩
                have n6_ : Aside0 (w31.heap[gb221]? = some (.cells #[.slice Ao14 t215.length co14, .slice Ao16 t218.length co16] 42 (0, 0))) := ⟨h6_⟩
                have n7_ : Aside0 (w31.heap[gb236]? = some (.cells #[.slice none 0 0, .slice none 0 0] 42 (0, 0))) := ⟨h7_⟩
                have n8_ : Aside0 (w.heap.size ≤ gb236) := ⟨h8_⟩
                have n9_ : Aside0 (w.heap.size ≤ gb236) := ⟨h9_⟩
                have n10_ : Aside0 (gb221 ≠ gb236) := ⟨h10_⟩
                have n11_ : Aside0 (gb236 ≠ gb221) := ⟨h11_⟩
                have n12_ : Aside0 (Below w.heap.size w w31) := ⟨h12_⟩
                clear HO_10
                clear HO_222000
                clear HO_222001
                clear BK221
                clear HB
                clear h0_ h1_ h2_ h3_ h4_ h5_ h6_ h7_ h8_ h9_ h10_ h11_ h12_
                have HL228_0 := n0_
                have HO231 := n1_
                have HO234 := n2_
                have HO_10 := n3_
                have HO_222000 := n4_
                have HO_222001 := n5_
                have BK221 := n6_
                have BK236 := n7_
                have GW236 := n8_
                have GE236 := n9_
                have NB221_236 := n10_
                have NB236_221 := n11_
                have HB := n12_
                clear n0_ n1_ n2_ n3_ n4_ n5_ n6_ n7_ n8_ n9_ n10_ n11_ n12_
                have hHeld : w31.cell? ⟨gb221, 0, none⟩ = some (.slice Ao14 t215.length co14) ∧ w31.cell? ⟨gb221, 1, none⟩ = some (.slice Ao16 t218.length co16) ∧ w31.cell? (ad228.add (x11_1).toNat) = some (.slice A228_0 (rd_L1 y225 x11_1).length c228_0) := hS_
                obtain ⟨Ao32, co32, eo32⟩ := Kd.R_slice HO231.out
                (first | subst eo32 | (injection eo32 with f1_ f2_ f3_; have f4_ := f1_.symm; have f5_ := f3_.symm; clear f1_ f2_ f3_; subst f4_; subst f5_))
                obtain ⟨Ao34, co34, eo34⟩ := Kd.R_slice HO234.out
                (first | subst eo34 | (injection eo34 with f1_ f2_ f3_; have f4_ := f1_.symm; have f5_ := f3_.symm; clear f1_ f2_ f3_; subst f4_; subst f5_))
                refine norm_ (a' := ?_) ?_ ?_
                rotate_left
                · simp only [putAll, Act.put, List.setIfInBounds_toArray, List.set_cons_zero, List.set_cons_succ]
                  rfl
                refine one_ (i := 10) (N := none) #[true, true, true, true, true, true, true, true, true, true, true, false] rfl rfl (one_of HT_.out (by kernel_rfl)) (by decide) (fun K hK => ?_)
                have hs33 : w31.cell? ⟨gb236, 0, none⟩ = some (.slice none 0 0) := (blk_cell BK236.out 0).trans rfl
                have hfs33 := blk_frozen BK236.out 0
                have hns33_0 := NB221_236.out
                have hms33_0 := NB236_221.out
                have hs35 : w31.cell? ⟨gb236, 1, none⟩ = some (.slice none 0 0) := (blk_cell BK236.out 1).trans rfl
                have hfs35 := blk_frozen BK236.out 1
                have hns35_0 := NB221_236.out
                have hms35_0 := NB236_221.out
                refine skip_ (w1 := ?_) (by rfl) rfl ?_ ?_
                rotate_left
                · go_simp
                  rfl
                refine hK.out _ _ ⟨((cell_far (p := ⟨gb236, _, none⟩) NB221_236.out _).trans (((cell_far (p := ⟨gb236, _, none⟩) NB221_236.out _).trans (hHeld.1)))), ((cell_far (p := ⟨gb236, _, none⟩) NB221_236.out _).trans (((cell_far (p := ⟨gb236, _, none⟩) NB221_236.out _).trans (hHeld.2.1)))), ((cell_far (p := ⟨gb236, _, none⟩) (by first | exact Kd.own_blk (Kd.N_away HO_10.out (fun _ hk => hk.2.2.2.2.2.2)) | (rw [add_block]; exact Kd.own_blk (Kd.N_away HO_10.out (fun _ hk => hk.2.2.2.2.2.2))) | (show (Addr.add _ _).block ≠ _; rw [add_block]; exact Kd.own_blk (Kd.N_away HO_10.out (fun _ hk => hk.2.2.2.2.2.2))) | (dsimp only; exact Kd.own_blk (Kd.N_away HO_10.out (fun _ hk => hk.2.2.2.2.2.2)))) _).trans (((cell_far (p := ⟨gb236, _, none⟩) (by first | exact Kd.own_blk (Kd.N_away HO_10.out (fun _ hk => hk.2.2.2.2.2.2)) | (rw [add_block]; exact Kd.own_blk (Kd.N_away HO_10.out (fun _ hk => hk.2.2.2.2.2.2))) | (show (Addr.add _ _).block ≠ _; rw [add_block]; exact Kd.own_blk (Kd.N_away HO_10.out (fun _ hk => hk.2.2.2.2.2.2))) | (dsimp only; exact Kd.own_blk (Kd.N_away HO_10.out (fun _ hk => hk.2.2.2.2.2.2)))) _).trans (hHeld.2.2))))⟩ (fun hHeld => ?_)
                clear hK K
                refine pure_ (i := 11) (N := some 13) (v := ?_) (a' := ?_) #[true, true, true, true, true, true, true, true, true, true, true, true] rfl rfl (any_of HT_.out (by kernel_rfl)) (fun _ _ _ h => h) (Or.inl ⟨by rfl, ?_⟩) ?_ ?_
                rotate_left
                · intro w'
                  go_simp
                  with_reducible rfl
                rotate_left
                · simp only [Act.put, List.setIfInBounds_toArray, List.set_cons_zero, List.set_cons_succ, i64_w, i32_w]
                  rfl
                refine done_ (done_of HT_.out (by kernel_rfl)) ?_
                try go_wp2
                have n0_ : Aside0 (Kd.N (Kd.slice 3 (Kd.int .i64)) 22 ((w31.setCell ⟨gb236, 0, none⟩ (.slice Ao32 t229.length co32)).setCell ⟨gb236, 1, none⟩ (.slice Ao34 t232.length co34)) w.heap.size (fun k_ => (P2_ k_ ∨ w.heap.size ≤ k_) ∧ some k_ ≠ (.slice Ao14 t215.length co14 : Value).ownBlock ∧ some k_ ≠ (.slice Ao16 t218.length co16 : Value).ownBlock ∧ some k_ ≠ (.slice Ao32 t229.length co32 : Value).ownBlock ∧ some k_ ≠ (.slice Ao34 t232.length co34 : Value).ownBlock ∧ k_ ≠ gb221 ∧ k_ ≠ gb236) (.slice (some ad228) y225.length co28) y225) := ⟨by (with_reducible repeat (first | apply Kd.N_alloc | apply Kd.N_drewN | apply Kd.N_drew)); exact Kd.N_mono (Kd.N_far (p := ⟨gb236, 1, none⟩) (Kd.N_far (p := ⟨gb236, 0, none⟩) (Kd.N_mono HO_10.out (fun k_ hk => (⟨hk, hk.2.2.2.2.2.2⟩ : _ ∧ k_ ≠ gb236))) (fun _ hk => hk.2) (.slice Ao32 t229.length co32)) (fun _ hk => hk.2) (.slice Ao34 t232.length co34)) (fun _ hk => ⟨hk.1.1, ⟨hk.1.2.2.2.1, ⟨hk.1.2.2.2.2.1, ⟨hk.1.2.1, ⟨hk.1.2.2.1, ⟨hk.1.2.2.2.2.2.1, hk.1.2.2.2.2.2.2⟩⟩⟩⟩⟩⟩)⟩
                have n1_ : Aside0 (Kd.R (Kd.int .i64) 3 ((w31.setCell ⟨gb236, 0, none⟩ (.slice Ao32 t229.length co32)).setCell ⟨gb236, 1, none⟩ (.slice Ao34 t232.length co34)) w.heap.size (fun k_ => (w.heap.size ≤ k_) ∧ some k_ ≠ (.slice Ao16 t218.length co16 : Value).ownBlock ∧ some k_ ≠ (.slice Ao32 t229.length co32 : Value).ownBlock ∧ some k_ ≠ (.slice Ao34 t232.length co34 : Value).ownBlock) (.slice Ao14 t215.length co14) t215) := ⟨by (with_reducible repeat (first | apply Kd.R_alloc | apply Kd.R_drewN | apply Kd.R_drew)); exact Kd.R_mono (Kd.R_far (p := ⟨gb236, 1, none⟩) (Kd.R_far (p := ⟨gb236, 0, none⟩) (Kd.R_types HO_222000.out BK236.out (by decide)) (fun _ hk => hk.2) (.slice Ao32 t229.length co32)) (fun _ hk => hk.2) (.slice Ao34 t232.length co34)) (fun _ hk => ⟨hk.1.1, ⟨hk.1.2.2.2, ⟨hk.1.2.1, hk.1.2.2.1⟩⟩⟩)⟩
                have n2_ : Aside0 (Kd.R (Kd.int .i64) 3 ((w31.setCell ⟨gb236, 0, none⟩ (.slice Ao32 t229.length co32)).setCell ⟨gb236, 1, none⟩ (.slice Ao34 t232.length co34)) w.heap.size (fun k_ => (w.heap.size ≤ k_) ∧ some k_ ≠ (.slice Ao14 t215.length co14 : Value).ownBlock ∧ some k_ ≠ (.slice Ao32 t229.length co32 : Value).ownBlock ∧ some k_ ≠ (.slice Ao34 t232.length co34 : Value).ownBlock) (.slice Ao16 t218.length co16) t218) := ⟨by (with_reducible repeat (first | apply Kd.R_alloc | apply Kd.R_drewN | apply Kd.R_drew)); exact Kd.R_mono (Kd.R_far (p := ⟨gb236, 1, none⟩) (Kd.R_far (p := ⟨gb236, 0, none⟩) (Kd.R_types HO_222001.out BK236.out (by decide)) (fun _ hk => hk.2) (.slice Ao32 t229.length co32)) (fun _ hk => hk.2) (.slice Ao34 t232.length co34)) (fun _ hk => ⟨hk.1.1, ⟨hk.1.2.2.2, ⟨hk.1.2.1, hk.1.2.2.1⟩⟩⟩)⟩
                have n3_ : Aside0 (Kd.V (Kd.int .i64) 3 ((w31.setCell ⟨gb236, 0, none⟩ (.slice Ao32 t229.length co32)).setCell ⟨gb236, 1, none⟩ (.slice Ao34 t232.length co34)) w.heap.size (fun k_ => (P2_ k_ ∨ w.heap.size ≤ k_) ∧ some k_ ≠ (.slice (some ad228) y225.length co28 : Value).ownBlock ∧ some k_ ≠ (.slice Ao14 t215.length co14 : Value).ownBlock ∧ some k_ ≠ (.slice Ao16 t218.length co16 : Value).ownBlock ∧ some k_ ≠ (.slice Ao32 t229.length co32 : Value).ownBlock ∧ some k_ ≠ (.slice Ao34 t232.length co34 : Value).ownBlock ∧ k_ ≠ gb221 ∧ k_ ≠ gb236) (.slice A228_0 (rd_L1 y225 x11_1).length c228_0) (rd_L1 y225 x11_1)) := ⟨by (with_reducible repeat (first | apply Kd.V_alloc | apply Kd.V_drewN | apply Kd.V_drew)); exact Kd.V_mono (Kd.V_far (p := ⟨gb236, 1, none⟩) (Kd.V_far (p := ⟨gb236, 0, none⟩) (Kd.V_mono HL228_0.out (fun k_ hk => (⟨hk, hk.2.2.2.2.2.2.2⟩ : _ ∧ k_ ≠ gb236))) (fun _ hk => hk.2) (.slice Ao32 t229.length co32)) (fun _ hk => hk.2) (.slice Ao34 t232.length co34)) (fun _ hk => ⟨hk.1.1, ⟨hk.1.2.2.2.1, ⟨hk.1.2.2.2.2.1, ⟨hk.1.2.2.2.2.2.1, ⟨hk.1.2.1, ⟨hk.1.2.2.1, ⟨hk.1.2.2.2.2.2.2.1, hk.1.2.2.2.2.2.2.2⟩⟩⟩⟩⟩⟩⟩)⟩
                have n4_ : Aside0 (Kd.R (Kd.int .i64) 3 ((w31.setCell ⟨gb236, 0, none⟩ (.slice Ao32 t229.length co32)).setCell ⟨gb236, 1, none⟩ (.slice Ao34 t232.length co34)) w.heap.size (fun k_ => (w.heap.size ≤ k_) ∧ some k_ ≠ (.slice Ao14 t215.length co14 : Value).ownBlock ∧ some k_ ≠ (.slice Ao16 t218.length co16 : Value).ownBlock ∧ some k_ ≠ (.slice Ao34 t232.length co34 : Value).ownBlock) (.slice Ao32 t229.length co32) t229) := ⟨by (with_reducible repeat (first | apply Kd.R_alloc | apply Kd.R_drewN | apply Kd.R_drew)); exact Kd.R_mono (Kd.R_far (p := ⟨gb236, 1, none⟩) (Kd.R_far (p := ⟨gb236, 0, none⟩) (Kd.R_types HO231.out BK236.out (by decide)) (fun _ hk => hk.2) (.slice Ao32 t229.length co32)) (fun _ hk => hk.2) (.slice Ao34 t232.length co34)) (fun _ hk => ⟨hk.1.1, ⟨hk.1.2.2.1, ⟨hk.1.2.2.2, hk.1.2.1⟩⟩⟩)⟩
                have n5_ : Aside0 (Kd.R (Kd.int .i64) 3 ((w31.setCell ⟨gb236, 0, none⟩ (.slice Ao32 t229.length co32)).setCell ⟨gb236, 1, none⟩ (.slice Ao34 t232.length co34)) w.heap.size (fun k_ => (w.heap.size ≤ k_) ∧ some k_ ≠ (.slice Ao14 t215.length co14 : Value).ownBlock ∧ some k_ ≠ (.slice Ao16 t218.length co16 : Value).ownBlock ∧ some k_ ≠ (.slice Ao32 t229.length co32 : Value).ownBlock) (.slice Ao34 t232.length co34) t232) := ⟨by (with_reducible repeat (first | apply Kd.R_alloc | apply Kd.R_drewN | apply Kd.R_drew)); exact Kd.R_mono (Kd.R_far (p := ⟨gb236, 1, none⟩) (Kd.R_far (p := ⟨gb236, 0, none⟩) (Kd.R_types HO234.out BK236.out (by decide)) (fun _ hk => hk.2) (.slice Ao32 t229.length co32)) (fun _ hk => hk.2) (.slice Ao34 t232.length co34)) (fun _ hk => ⟨hk.1.1, ⟨hk.1.2.2.1, ⟨hk.1.2.2.2, hk.1.2.1⟩⟩⟩)⟩
                have n6_ : Aside0 (((w31.setCell ⟨gb236, 0, none⟩ (.slice Ao32 t229.length co32)).setCell ⟨gb236, 1, none⟩ (.slice Ao34 t232.length co34)).heap[gb221]? = some (.cells #[.slice Ao14 t215.length co14, .slice Ao16 t218.length co16] 42 (0, 0))) := ⟨by (with_reducible repeat (first | refine blk_drewN ?_ _ | refine blk_drew ?_ | refine blk_alloc ?_ _)); refine blk_far ?_ NB221_236.out _; (with_reducible repeat (first | refine blk_drewN ?_ _ | refine blk_drew ?_ | refine blk_alloc ?_ _)); refine blk_far ?_ NB221_236.out _; (with_reducible repeat (first | refine blk_drewN ?_ _ | refine blk_drew ?_ | refine blk_alloc ?_ _)); exact BK221.out⟩
                have n7_ : Aside0 (((w31.setCell ⟨gb236, 0, none⟩ (.slice Ao32 t229.length co32)).setCell ⟨gb236, 1, none⟩ (.slice Ao34 t232.length co34)).heap[gb236]? = some (.cells #[.slice Ao32 t229.length co32, .slice Ao34 t232.length co34] 42 (0, 0))) := ⟨by (with_reducible repeat (first | refine blk_drewN ?_ _ | refine blk_drew ?_ | refine blk_alloc ?_ _)); refine blk_put (cs := #[.slice Ao32 t229.length co32, .slice none 0 0]) ?_ 1 _ rfl; (with_reducible repeat (first | refine blk_drewN ?_ _ | refine blk_drew ?_ | refine blk_alloc ?_ _)); refine blk_put (cs := #[.slice none 0 0, .slice none 0 0]) ?_ 0 _ rfl; (with_reducible repeat (first | refine blk_drewN ?_ _ | refine blk_drew ?_ | refine blk_alloc ?_ _)); exact BK236.out⟩
                have n8_ : Aside0 (Below w.heap.size w ((w31.setCell ⟨gb236, 0, none⟩ (.slice Ao32 t229.length co32)).setCell ⟨gb236, 1, none⟩ (.slice Ao34 t232.length co34))) := ⟨by repeat (first | (with_reducible first | exact HB.out | apply below_alloc | apply pw_below_drewN | apply below_drew1 | refine below_set ?_ GE221.out | refine below_set ?_ GE236.out) | exact HB.out)⟩
                (try clear HO_10)
                (try clear HO_222000)
                (try clear HO_222001)
                (try clear HL228_0)
                (try clear HO231)
                (try clear HO234)
                (try clear BK221)
                (try clear BK236)
                (try clear HB)
                generalize ((w31.setCell ⟨gb236, 0, none⟩ (.slice Ao32 t229.length co32)).setCell ⟨gb236, 1, none⟩ (.slice Ao34 t232.length co34)) = w36 at n0_ n1_ n2_ n3_ n4_ n5_ n6_ n7_ n8_ ⊢
                have HO_10 := n0_
                have HO_222000 := n1_
                have HO_222001 := n2_
                have HL228_0 := n3_
                have HO231 := n4_
                have HO234 := n5_
                have BK221 := n6_
                have BK236 := n7_
                have HB := n8_
                clear n0_ n1_ n2_ n3_ n4_ n5_ n6_ n7_ n8_
                have n0_ := Aside0.mk (Kd.N_drew HO_10.out)
                have n1_ := Aside0.mk (Kd.R_drew HO_222000.out)
                have n2_ := Aside0.mk (Kd.R_drew HO_222001.out)
                have n3_ := Aside0.mk (Kd.V_drew HL228_0.out)
                have n4_ := Aside0.mk (Kd.R_drew HO231.out)
                have n5_ := Aside0.mk (Kd.R_drew HO234.out)
                have n6_ := Aside0.mk (blk_drew BK221.out)
                have n7_ := Aside0.mk (blk_drew BK236.out)
                have n8_ := Aside0.mk (below_drew1 HB.out)
                clear HO_10
                clear HO_222000
                clear HO_222001
                clear HL228_0
                clear HO231
                clear HO234
                clear BK221
                clear BK236
                clear HB
                have HO_10 := n0_
                have HO_222000 := n1_
                have HO_222001 := n2_
                have HL228_0 := n3_
                have HO231 := n4_
                have HO234 := n5_
                have BK221 := n6_
                have BK236 := n7_
                have HB := n8_
                clear n0_ n1_ n2_ n3_ n4_ n5_ n6_ n7_ n8_
                have p237 : 0 ≤ (x11_1 : Int) := of_decide_eq_true (by first | (with_reducible assumption) | assumption)
                have q237 : x11_1 < (y225.length : Int) := of_decide_eq_true (by first | (with_reducible assumption) | assumption)
                obtain ⟨ad237, A237_0, c237_0, e237, hx237_0, hl237_0, hi237_0⟩ := at_L1 (Kd.N_reads' HO_10.out).2.2 x11_1 p237 q237
                obtain rfl : ad228 = ad237 := (by injection e237)
                obtain ⟨ce237, hce237, hMe237, hcc237⟩ := Kd.N_get HO_10.out [] x11_1 p237 (by first | exact q237 | exact of_decide_eq_true (by first | (with_reducible assumption) | assumption) | (have e_ := (Kd.N_reads' HO_10.out).1; omega))
                obtain ⟨ua237_0, uc237_0, rfl, ul237_0, ge237_0⟩ := Kd.FK_slice_open hMe237
                have hv237_0 := hcc237 0 _ rfl
                rw [Nat.add_zero, show ((Kd.slice 3 (Kd.int .i64))).sz = 1 from rfl, Nat.mul_one] at hv237_0
                replace hv237_0 := Option.some.inj (hv237_0.symm.trans hx237_0)
                injection hv237_0 with hva_ hvn_ hvc_
                rw [hva_] at ge237_0
                rw [hvc_] at ul237_0
                have HL237_0 := Aside0.mk (show Kd.V (Kd.int .i64) 3 _ w.heap.size _ _ (rd_L1 y225 x11_1) from Kd.V_mk ul237_0 ge237_0)
                clear hva_ hvn_ hvc_ ge237_0 ul237_0
                clear hcc237 hce237
                have HR237_0 := Aside0.mk hi237_0
                have HC237_0 := Aside0.mk hl237_0
                clear hi237_0 hl237_0
                replace p237 := eq_true p237
                replace q237 := eq_true q237
                refine start_ (n := 12) (S := fun w' => w'.cell? ⟨gb221, 0, none⟩ = some (.slice Ao14 t215.length co14) ∧ w'.cell? ⟨gb221, 1, none⟩ = some (.slice Ao16 t218.length co16) ∧ w'.cell? (ad228.add (x11_1).toNat) = some (.slice A237_0 (rd_L1 y225 x11_1).length c237_0)) (ds := []) #[false, false, false, false, false, false, false, false, false, false, false, false] (by kernel_rfl) rfl rfl ⟨(blk_cell BK221.out 0).trans rfl, (blk_cell BK221.out 1).trans rfl, hx237_0⟩ (fun hHeld => ?_); refine with_tabW synodallaw8_ConfSteps.tab11 synodallaw8_ConfSteps.bits11 (fun HT_ HW_ => ?_)
                generalize w36.drew = w37 at HO_10 HO_222000 HO_222001 HL228_0 HO231 HO234 BK221 BK236 HB HL237_0 HR237_0 hx237_0 hHeld ⊢
                refine pure_ (i := 1) (N := some 47) (v := ?_) (a' := ?_) #[false, true, false, false, false, false, false, false, false, false, false, false] rfl rfl (any_of HT_.out (by kernel_rfl)) (fun _ _ _ h => h) (Or.inl ⟨by rfl, ?_⟩) ?_ ?_
                rotate_left
                · intro w'
                  go_simp
                  with_reducible rfl
                rotate_left
                · simp only [Act.put, List.setIfInBounds_toArray, List.set_cons_zero, List.set_cons_succ, i64_w, i32_w]
                  rfl
                refine pure_ (i := 2) (N := some 48) (v := ?_) (a' := ?_) #[false, true, true, false, false, false, false, false, false, false, false, false] rfl rfl (any_of HT_.out (by kernel_rfl)) (fun _ _ _ h => h) (Or.inl ⟨by rfl, ?_⟩) ?_ ?_
                rotate_left
                · intro w'
                  go_simp
                  with_reducible rfl
                rotate_left
                · simp only [Act.put, List.setIfInBounds_toArray, List.set_cons_zero, List.set_cons_succ, i64_w, i32_w]
                  rfl
                refine pure_ (i := 3) (N := some 49) (v := ?_) (a' := ?_) #[false, true, true, true, false, false, false, false, false, false, false, false] rfl rfl (any_of HT_.out (by kernel_rfl)) (fun _ _ _ h => h) (Or.inl ⟨by rfl, ?_⟩) ?_ ?_
                rotate_left
                · intro w'
                  go_simp
                  with_reducible rfl
                rotate_left
                · simp only [Act.put, List.setIfInBounds_toArray, List.set_cons_zero, List.set_cons_succ, i64_w, i32_w]
                  rfl
                refine take_ (i := 0) (N := some 46) (v := ?_) (a' := ?_) #[true, true, true, true, false, false, false, false, false, false, false, false] rfl rfl (take_ofW HT_.out HW_.out (by kernel_rfl)) (fun _ _ _ h => h) (Or.inl ⟨by rfl, ?_⟩) hHeld ?_ ?_
                rotate_left
                · rintro w' ⟨s0, s1, s2⟩
                  go_simp
                  with_reducible rfl
                rotate_left
                · simp only [Act.put, List.setIfInBounds_toArray, List.set_cons_zero, List.set_cons_succ, i64_w, i32_w]
                  rfl
                refine take_ (i := 4) (N := some 50) (v := ?_) (a' := ?_) #[true, true, true, true, true, false, false, false, false, false, false, false] rfl rfl (take_ofW HT_.out HW_.out (by kernel_rfl)) (fun _ _ _ h => h) (Or.inl ⟨by rfl, ?_⟩) hHeld ?_ ?_
                rotate_left
                · rintro w' ⟨s0, s1, s2⟩
                  go_simp
                  with_reducible rfl
                rotate_left
                · simp only [Act.put, List.setIfInBounds_toArray, List.set_cons_zero, List.set_cons_succ, i64_w, i32_w]
                  rfl
                refine join_ (σ := Value × Value × Nat) 2 #[true, true, true, true, true, true, true, true, true, true, false, false] (fun s_ => [(51, .tuple #[.agg #[s_.1, s_.2.1], .int .i64 t244]), (14, .pointer (some ⟨s_.2.2, 0, none⟩)), (45, .tuple #[.agg #[s_.1, s_.2.1], .int .i64 t244]), (52, .agg #[s_.1, s_.2.1]), (53, .int .i64 t244)]) (fun s_ w' => (w'.cell? ⟨gb221, 0, none⟩ = some (.slice Ao14 t215.length co14) ∧ w'.cell? ⟨gb221, 1, none⟩ = some (.slice Ao16 t218.length co16) ∧ w'.cell? (ad228.add (x11_1).toNat) = some (.slice A237_0 (rd_L1 y225 x11_1).length c237_0)) ∧ (Kd.V (Kd.int .i64) 3 w' w.heap.size (fun k_ => (P2_ k_ ∨ w.heap.size ≤ k_) ∧ some k_ ≠ (.slice Ao32 t229.length co32 : Value).ownBlock ∧ some k_ ≠ (.slice Ao34 t232.length co34 : Value).ownBlock ∧ some k_ ≠ (s_.1 : Value).ownBlock ∧ some k_ ≠ (s_.2.1 : Value).ownBlock ∧ some k_ ≠ (.slice (some ad228) y225.length co28 : Value).ownBlock ∧ some k_ ≠ (.slice Ao14 t215.length co14 : Value).ownBlock ∧ some k_ ≠ (.slice Ao16 t218.length co16 : Value).ownBlock ∧ k_ ≠ gb221 ∧ k_ ≠ gb236 ∧ k_ ≠ s_.2.2) (.slice A228_0 (rd_L1 y225 x11_1).length c228_0) (rd_L1 y225 x11_1)) ∧ (Kd.V (Kd.int .i64) 3 w' w.heap.size (fun k_ => (P2_ k_ ∨ w.heap.size ≤ k_) ∧ some k_ ≠ (.slice Ao32 t229.length co32 : Value).ownBlock ∧ some k_ ≠ (.slice Ao34 t232.length co34 : Value).ownBlock ∧ some k_ ≠ (s_.1 : Value).ownBlock ∧ some k_ ≠ (s_.2.1 : Value).ownBlock ∧ some k_ ≠ (.slice (some ad228) y225.length co28 : Value).ownBlock ∧ some k_ ≠ (.slice Ao14 t215.length co14 : Value).ownBlock ∧ some k_ ≠ (.slice Ao16 t218.length co16 : Value).ownBlock ∧ k_ ≠ gb221 ∧ k_ ≠ gb236 ∧ k_ ≠ s_.2.2) (.slice A237_0 (rd_L1 y225 x11_1).length c237_0) (rd_L1 y225 x11_1)) ∧ (Kd.R (Kd.int .i64) 3 w' w.heap.size (fun k_ => (w.heap.size ≤ k_) ∧ some k_ ≠ (.slice Ao34 t232.length co34 : Value).ownBlock ∧ some k_ ≠ (s_.1 : Value).ownBlock ∧ some k_ ≠ (s_.2.1 : Value).ownBlock ∧ some k_ ≠ (.slice Ao14 t215.length co14 : Value).ownBlock ∧ some k_ ≠ (.slice Ao16 t218.length co16 : Value).ownBlock) (.slice Ao32 t229.length co32) t229) ∧ (Kd.R (Kd.int .i64) 3 w' w.heap.size (fun k_ => (w.heap.size ≤ k_) ∧ some k_ ≠ (.slice Ao32 t229.length co32 : Value).ownBlock ∧ some k_ ≠ (s_.1 : Value).ownBlock ∧ some k_ ≠ (s_.2.1 : Value).ownBlock ∧ some k_ ≠ (.slice Ao14 t215.length co14 : Value).ownBlock ∧ some k_ ≠ (.slice Ao16 t218.length co16 : Value).ownBlock) (.slice Ao34 t232.length co34) t232) ∧ (Kd.R (Kd.int .i64) 3 w' w.heap.size (fun k_ => (w.heap.size ≤ k_) ∧ some k_ ≠ (.slice Ao32 t229.length co32 : Value).ownBlock ∧ some k_ ≠ (.slice Ao34 t232.length co34 : Value).ownBlock ∧ some k_ ≠ (s_.2.1 : Value).ownBlock ∧ some k_ ≠ (.slice Ao14 t215.length co14 : Value).ownBlock ∧ some k_ ≠ (.slice Ao16 t218.length co16 : Value).ownBlock) s_.1 t238) ∧ (Kd.R (Kd.int .i64) 3 w' w.heap.size (fun k_ => (w.heap.size ≤ k_) ∧ some k_ ≠ (.slice Ao32 t229.length co32 : Value).ownBlock ∧ some k_ ≠ (.slice Ao34 t232.length co34 : Value).ownBlock ∧ some k_ ≠ (s_.1 : Value).ownBlock ∧ some k_ ≠ (.slice Ao14 t215.length co14 : Value).ownBlock ∧ some k_ ≠ (.slice Ao16 t218.length co16 : Value).ownBlock) s_.2.1 t241) ∧ (Kd.N (Kd.slice 3 (Kd.int .i64)) 22 w' w.heap.size (fun k_ => (P2_ k_ ∨ w.heap.size ≤ k_) ∧ some k_ ≠ (.slice Ao32 t229.length co32 : Value).ownBlock ∧ some k_ ≠ (.slice Ao34 t232.length co34 : Value).ownBlock ∧ some k_ ≠ (s_.1 : Value).ownBlock ∧ some k_ ≠ (s_.2.1 : Value).ownBlock ∧ some k_ ≠ (.slice Ao14 t215.length co14 : Value).ownBlock ∧ some k_ ≠ (.slice Ao16 t218.length co16 : Value).ownBlock ∧ k_ ≠ gb221 ∧ k_ ≠ gb236 ∧ k_ ≠ s_.2.2) (.slice (some ad228) y225.length co28) y225) ∧ (Kd.R (Kd.int .i64) 3 w' w.heap.size (fun k_ => (w.heap.size ≤ k_) ∧ some k_ ≠ (.slice Ao32 t229.length co32 : Value).ownBlock ∧ some k_ ≠ (.slice Ao34 t232.length co34 : Value).ownBlock ∧ some k_ ≠ (s_.1 : Value).ownBlock ∧ some k_ ≠ (s_.2.1 : Value).ownBlock ∧ some k_ ≠ (.slice Ao16 t218.length co16 : Value).ownBlock) (.slice Ao14 t215.length co14) t215) ∧ (Kd.R (Kd.int .i64) 3 w' w.heap.size (fun k_ => (w.heap.size ≤ k_) ∧ some k_ ≠ (.slice Ao32 t229.length co32 : Value).ownBlock ∧ some k_ ≠ (.slice Ao34 t232.length co34 : Value).ownBlock ∧ some k_ ≠ (s_.1 : Value).ownBlock ∧ some k_ ≠ (s_.2.1 : Value).ownBlock ∧ some k_ ≠ (.slice Ao14 t215.length co14 : Value).ownBlock) (.slice Ao16 t218.length co16) t218) ∧ (w'.heap[gb221]? = some (.cells #[.slice Ao14 t215.length co14, .slice Ao16 t218.length co16] 42 (0, 0))) ∧ (w'.heap[gb236]? = some (.cells #[.slice Ao32 t229.length co32, .slice Ao34 t232.length co34] 42 (0, 0))) ∧ (w'.heap[s_.2.2]? = some (.cells #[.slice none 0 0, .slice none 0 0] 42 (0, 0))) ∧ (w.heap.size ≤ s_.2.2) ∧ (w.heap.size ≤ s_.2.2) ∧ (gb221 ≠ s_.2.2) ∧ (s_.2.2 ≠ gb221) ∧ (gb236 ≠ s_.2.2) ∧ (s_.2.2 ≠ gb236) ∧ (Below w.heap.size w w')) ?_ ?_
                rotate_left
                · intro hCont
                  refine two_ (i := 5) (j := 9) (Ni := some 51) (Nj := some 14) #[true, true, true, true, true, true, false, false, false, false, false, false] #[true, true, true, true, true, false, false, false, false, true, false, false] rfl rfl rfl rfl (two_of HT_.out (by kernel_rfl)) (by decide) (by decide) (fun K hK => ?_) (fun K hK => ?_)
                  · skip
                    refine goes_ Try.func29 (by kernel_rfl) rfl #[.agg #[.slice Ao14 t215.length co14, .slice Ao16 t218.length co16], .slice A237_0 (rd_L1 y225 x11_1).length c237_0] (by rfl) rfl rfl (by (try simp only [List.map_toArray, List.map_cons, List.map_nil]); first | done | rfl | (simp only [List.length_drop, List.length_take]; rfl)) ?_
                    with_reducible refine (synodalref8_Enter.calls k1 _ _ t215 _ _ t218 _ _ (rd_L1 y225 x11_1) t238 t241 t244 _ ?side1 ?side2 ?side3 ?side4 ?side5 ?side6 A25.out).mono ?_
                    (case side1 => repeat (first | exact (Kd.R_reads' HO_222000.out).2.2 | (with_reducible refine Kd.C_alloc ?_ _) | (with_reducible refine Kd.C_drewN ?_ _) | (with_reducible refine Kd.C_drew ?_)))
                    (case side2 => exact (Kd.R_reads' HO_222000.out).2.1)
                    (case side3 => repeat (first | exact (Kd.R_reads' HO_222001.out).2.2 | (with_reducible refine Kd.C_alloc ?_ _) | (with_reducible refine Kd.C_drewN ?_ _) | (with_reducible refine Kd.C_drew ?_)))
                    (case side4 => exact (Kd.R_reads' HO_222001.out).2.1)
                    (case side5 => repeat (first | exact (by repeat (first | (with_reducible exact HR237_0.out) | (with_reducible refine Kd.C_alloc ?_ _) | (with_reducible refine Kd.C_drewN ?_ _) | (with_reducible refine Kd.C_drew ?_) | exact HR237_0.out)) | (with_reducible refine Kd.C_alloc ?_ _) | (with_reducible refine Kd.C_drewN ?_ _) | (with_reducible refine Kd.C_drew ?_)))
                    (case side6 => exact HC237_0.out)
                    rintro e w38 ⟨v239, v242, rfl, ho0, ho1, hb⟩
                    have HS2_ := (hb.cell (World.block_lt_of_cell? _ _ (hHeld.2.2))).trans (hHeld.2.2)
                    refine ⟨_, rfl, ?_⟩
                    have n0_ := Aside0.mk (Kd.N_mono (Kd.N_told (Kd.N_told (Kd.N_old (by (with_reducible repeat (first | apply Kd.N_alloc | apply Kd.N_drewN | apply Kd.N_drew)); exact HO_10.out) hb) (Kd.R_base ho0)) (Kd.R_base ho1)) (fun _ h_ => h_.1))
                    have n1_ := Aside0.mk (Kd.R_mono (Kd.R_told (Kd.R_told (Kd.R_old (by (with_reducible repeat (first | apply Kd.R_alloc | apply Kd.R_drewN | apply Kd.R_drew)); exact HO_222000.out) hb) (Kd.R_base ho0)) (Kd.R_base ho1)) (fun _ h_ => h_.1))
                    have n2_ := Aside0.mk (Kd.R_mono (Kd.R_told (Kd.R_told (Kd.R_old (by (with_reducible repeat (first | apply Kd.R_alloc | apply Kd.R_drewN | apply Kd.R_drew)); exact HO_222001.out) hb) (Kd.R_base ho0)) (Kd.R_base ho1)) (fun _ h_ => h_.1))
                    have n3_ := Aside0.mk (Kd.V_mono (Kd.V_told (Kd.V_told (Kd.V_old (by (with_reducible repeat (first | apply Kd.V_alloc | apply Kd.V_drewN | apply Kd.V_drew)); exact HL228_0.out) hb) (Kd.R_base ho0)) (Kd.R_base ho1)) (fun _ h_ => h_.1))
                    have n4_ := Aside0.mk (Kd.R_mono (Kd.R_told (Kd.R_told (Kd.R_old (by (with_reducible repeat (first | apply Kd.R_alloc | apply Kd.R_drewN | apply Kd.R_drew)); exact HO231.out) hb) (Kd.R_base ho0)) (Kd.R_base ho1)) (fun _ h_ => h_.1))
                    have n5_ := Aside0.mk (Kd.R_mono (Kd.R_told (Kd.R_told (Kd.R_old (by (with_reducible repeat (first | apply Kd.R_alloc | apply Kd.R_drewN | apply Kd.R_drew)); exact HO234.out) hb) (Kd.R_base ho0)) (Kd.R_base ho1)) (fun _ h_ => h_.1))
                    have n6_ := Aside0.mk (Kd.V_mono (Kd.V_told (Kd.V_told (Kd.V_old (by (with_reducible repeat (first | apply Kd.V_alloc | apply Kd.V_drewN | apply Kd.V_drew)); exact HL237_0.out) hb) (Kd.R_base ho0)) (Kd.R_base ho1)) (fun _ h_ => h_.1))
                    have n7_ := Aside0.mk (Kd.R_lower (Kd.R_new' (Kd.R_new' (Kd.R_new' (Kd.R_new' (Kd.R_newM (M := fun k_ => (w.heap.size ≤ k_)) ho0 (below_size (by repeat (first | (with_reducible first | exact HB.out | apply below_alloc | apply pw_below_drewN | apply below_drew1 | refine below_set ?_ GE221.out | refine below_set ?_ GE236.out) | exact HB.out))) (fun k_ h_ => h_)) (Kd.R_lt (by (with_reducible repeat (first | apply Kd.R_alloc | apply Kd.R_drewN | apply Kd.R_drew)); exact HO_222000.out))) (Kd.R_lt (by (with_reducible repeat (first | apply Kd.R_alloc | apply Kd.R_drewN | apply Kd.R_drew)); exact HO_222001.out))) (Kd.R_lt (by (with_reducible repeat (first | apply Kd.R_alloc | apply Kd.R_drewN | apply Kd.R_drew)); exact HO231.out))) (Kd.R_lt (by (with_reducible repeat (first | apply Kd.R_alloc | apply Kd.R_drewN | apply Kd.R_drew)); exact HO234.out))) (below_size (by repeat (first | (with_reducible first | exact HB.out | apply below_alloc | apply pw_below_drewN | apply below_drew1 | refine below_set ?_ GE221.out | refine below_set ?_ GE236.out) | exact HB.out))))
                    have n8_ := Aside0.mk (Kd.R_lower (Kd.R_new' (Kd.R_new' (Kd.R_new' (Kd.R_new' (Kd.R_newM (M := fun k_ => (w.heap.size ≤ k_)) ho1 (below_size (by repeat (first | (with_reducible first | exact HB.out | apply below_alloc | apply pw_below_drewN | apply below_drew1 | refine below_set ?_ GE221.out | refine below_set ?_ GE236.out) | exact HB.out))) (fun k_ h_ => h_)) (Kd.R_lt (by (with_reducible repeat (first | apply Kd.R_alloc | apply Kd.R_drewN | apply Kd.R_drew)); exact HO_222000.out))) (Kd.R_lt (by (with_reducible repeat (first | apply Kd.R_alloc | apply Kd.R_drewN | apply Kd.R_drew)); exact HO_222001.out))) (Kd.R_lt (by (with_reducible repeat (first | apply Kd.R_alloc | apply Kd.R_drewN | apply Kd.R_drew)); exact HO231.out))) (Kd.R_lt (by (with_reducible repeat (first | apply Kd.R_alloc | apply Kd.R_drewN | apply Kd.R_drew)); exact HO234.out))) (below_size (by repeat (first | (with_reducible first | exact HB.out | apply below_alloc | apply pw_below_drewN | apply below_drew1 | refine below_set ?_ GE221.out | refine below_set ?_ GE236.out) | exact HB.out))))
                    have n9_ := Aside0.mk (blk_below (g := gb221) (o := .cells #[.slice Ao14 t215.length co14, .slice Ao16 t218.length co16] 42 (0, 0)) (by (with_reducible repeat (first | refine blk_drewN ?_ _ | refine blk_drew ?_ | refine blk_alloc ?_ _)); exact BK221.out) hb)
                    have n10_ := Aside0.mk (blk_below (g := gb236) (o := .cells #[.slice Ao32 t229.length co32, .slice Ao34 t232.length co34] 42 (0, 0)) (by (with_reducible repeat (first | refine blk_drewN ?_ _ | refine blk_drew ?_ | refine blk_alloc ?_ _)); exact BK236.out) hb)
                    have n11_ := Aside0.mk (Kd.C_below (by repeat (first | (with_reducible exact HR237_0.out) | (with_reducible refine Kd.C_alloc ?_ _) | (with_reducible refine Kd.C_drewN ?_ _) | (with_reducible refine Kd.C_drew ?_) | exact HR237_0.out)) hb)
                    have n12_ := Aside0.mk (below_step (by repeat (first | (with_reducible first | exact HB.out | apply below_alloc | apply pw_below_drewN | apply below_drew1 | refine below_set ?_ GE221.out | refine below_set ?_ GE236.out) | exact HB.out)) hb)
                    clear HO_10
                    clear HO_222000
                    clear HO_222001
                    clear HL228_0
                    clear HO231
                    clear HO234
                    clear HL237_0
                    clear BK221
                    clear BK236
                    clear HR237_0
                    clear HB
                    have HO_10 := n0_
                    have HO_222000 := n1_
                    have HO_222001 := n2_
                    have HL228_0 := n3_
                    have HO231 := n4_
                    have HO234 := n5_
                    have HL237_0 := n6_
                    have HO240 := n7_
                    have HO243 := n8_
                    have BK221 := n9_
                    have BK236 := n10_
                    have HR237_0 := n11_
                    have HB := n12_
                    clear n0_ n1_ n2_ n3_ n4_ n5_ n6_ n7_ n8_ n9_ n10_ n11_ n12_
                    (try clear hb)
                    (try clear hb2)
                    (try clear hk)
                    (try clear hi)
                    (try clear ho0)
                    (try clear ho1)
                    refine hK.out _ _ ⟨(blk_cell BK221.out 0).trans rfl, (blk_cell BK221.out 1).trans rfl, HS2_⟩ (fun hHeld => ?_)
                    clear hK K
                    refine norm_ (a' := ?_) ?_ ?_
                    rotate_left
                    · show Act.put _ (some 51) _ = _
                      simp only [Act.put, List.setIfInBounds_toArray, List.set_cons_zero, List.set_cons_succ, i64_w, i32_w]
                      rfl
                    refine pure_ (i := 6) (N := some 45) (v := ?_) (a' := ?_) #[true, true, true, true, true, true, true, false, false, false, false, false] rfl rfl (any_of HT_.out (by kernel_rfl)) (fun _ _ _ h => h) (Or.inl ⟨by rfl, ?_⟩) ?_ ?_
                    rotate_left
                    · intro w'
                      go_simp
                      with_reducible rfl
                    rotate_left
                    · simp only [Act.put, List.setIfInBounds_toArray, List.set_cons_zero, List.set_cons_succ, i64_w, i32_w]
                      rfl
                    refine pure_ (i := 7) (N := some 52) (v := ?_) (a' := ?_) #[true, true, true, true, true, true, true, true, false, false, false, false] rfl rfl (any_of HT_.out (by kernel_rfl)) (fun _ _ _ h => h) (Or.inl ⟨by rfl, ?_⟩) ?_ ?_
                    rotate_left
                    · intro w'
                      go_simp
                      with_reducible rfl
                    rotate_left
                    · simp only [Act.put, List.setIfInBounds_toArray, List.set_cons_zero, List.set_cons_succ, i64_w, i32_w]
                      rfl
                    refine pure_ (i := 8) (N := some 53) (v := ?_) (a' := ?_) #[true, true, true, true, true, true, true, true, true, false, false, false] rfl rfl (any_of HT_.out (by kernel_rfl)) (fun _ _ _ h => h) (Or.inl ⟨by rfl, ?_⟩) ?_ ?_
                    rotate_left
                    · intro w'
                      go_simp
                      with_reducible rfl
                    rotate_left
                    · simp only [Act.put, List.setIfInBounds_toArray, List.set_cons_zero, List.set_cons_succ, i64_w, i32_w]
                      rfl
                    refine one_ (i := 9) (N := some 14) #[true, true, true, true, true, true, true, true, true, true, false, false] rfl rfl (one_of HT_.out (by kernel_rfl)) (by decide) (fun K hK => ?_)
                    refine box_step ?hg (N := 14) ?hd (cs := #[.slice none 0 0, .slice none 0 0]) (t := 42) ?hr ?_; (case hd => rfl); (case hg => rfl); (case hr => first | (go_simp; done) | (go_simp; rfl))
                    intro gb245 hg w39 hbox hb
                    have HS2_ := (hb.cell (World.block_lt_of_cell? _ _ (hHeld.2.2))).trans (hHeld.2.2)
                    have n0_ := Aside0.mk (Kd.N_below (Kd.N_elderB (by (with_reducible repeat (first | apply Kd.N_alloc | apply Kd.N_drewN | apply Kd.N_drew)); exact HO_10.out) gb245 (Nat.le_of_eq hg.symm)) hb)
                    have n1_ := Aside0.mk (Kd.R_below (by (with_reducible repeat (first | apply Kd.R_alloc | apply Kd.R_drewN | apply Kd.R_drew)); exact HO_222000.out) hb)
                    have n2_ := Aside0.mk (Kd.R_below (by (with_reducible repeat (first | apply Kd.R_alloc | apply Kd.R_drewN | apply Kd.R_drew)); exact HO_222001.out) hb)
                    have n3_ := Aside0.mk (Kd.V_below (Kd.V_elderB (by (with_reducible repeat (first | apply Kd.V_alloc | apply Kd.V_drewN | apply Kd.V_drew)); exact HL228_0.out) gb245 (Nat.le_of_eq hg.symm)) hb)
                    have n4_ := Aside0.mk (Kd.R_below (by (with_reducible repeat (first | apply Kd.R_alloc | apply Kd.R_drewN | apply Kd.R_drew)); exact HO231.out) hb)
                    have n5_ := Aside0.mk (Kd.R_below (by (with_reducible repeat (first | apply Kd.R_alloc | apply Kd.R_drewN | apply Kd.R_drew)); exact HO234.out) hb)
                    have n6_ := Aside0.mk (Kd.V_below (Kd.V_elderB (by (with_reducible repeat (first | apply Kd.V_alloc | apply Kd.V_drewN | apply Kd.V_drew)); exact HL237_0.out) gb245 (Nat.le_of_eq hg.symm)) hb)
                    have n7_ := Aside0.mk (Kd.R_below (by (with_reducible repeat (first | apply Kd.R_alloc | apply Kd.R_drewN | apply Kd.R_drew)); exact HO240.out) hb)
                    have n8_ := Aside0.mk (Kd.R_below (by (with_reducible repeat (first | apply Kd.R_alloc | apply Kd.R_drewN | apply Kd.R_drew)); exact HO243.out) hb)
                    have n9_ := Aside0.mk (blk_below (g := gb221) (o := .cells #[.slice Ao14 t215.length co14, .slice Ao16 t218.length co16] 42 (0, 0)) (by (with_reducible repeat (first | refine blk_drewN ?_ _ | refine blk_drew ?_ | refine blk_alloc ?_ _)); exact BK221.out) hb)
                    have n10_ := Aside0.mk (blk_below (g := gb236) (o := .cells #[.slice Ao32 t229.length co32, .slice Ao34 t232.length co34] 42 (0, 0)) (by (with_reducible repeat (first | refine blk_drewN ?_ _ | refine blk_drew ?_ | refine blk_alloc ?_ _)); exact BK236.out) hb)
                    have n11_ := Aside0.mk (Kd.C_below (by repeat (first | (with_reducible exact HR237_0.out) | (with_reducible refine Kd.C_alloc ?_ _) | (with_reducible refine Kd.C_drewN ?_ _) | (with_reducible refine Kd.C_drew ?_) | exact HR237_0.out)) hb)
                    have n12_ := Aside0.mk (below_step (by repeat (first | (with_reducible first | exact HB.out | apply below_alloc | apply pw_below_drewN | apply below_drew1 | refine below_set ?_ GE221.out | refine below_set ?_ GE236.out) | exact HB.out)) hb)
                    have n13_ := Aside0.mk (hbox)
                    have n14_ := Aside0.mk ((by rw [hg]; exact (below_size (by repeat (first | (with_reducible first | exact HB.out | apply below_alloc | apply pw_below_drewN | apply below_drew1 | refine below_set ?_ GE221.out | refine below_set ?_ GE236.out) | exact HB.out))) : w.heap.size ≤ gb245))
                    have n15_ := Aside0.mk ((by rw [hg]; exact (below_size (by repeat (first | (with_reducible first | exact HB.out | apply below_alloc | apply pw_below_drewN | apply below_drew1 | refine below_set ?_ GE221.out | refine below_set ?_ GE236.out) | exact HB.out))) : w.heap.size ≤ gb245))
                    have n16_ := Aside0.mk ((by rw [hg]; exact Nat.ne_of_lt (blk_lt (g := gb221) (o := .cells #[.slice Ao14 t215.length co14, .slice Ao16 t218.length co16] 42 (0, 0)) (by (with_reducible repeat (first | refine blk_drewN ?_ _ | refine blk_drew ?_ | refine blk_alloc ?_ _)); exact BK221.out)) : gb221 ≠ gb245))
                    have n17_ := Aside0.mk ((by rw [hg]; exact Nat.ne_of_gt (blk_lt (g := gb221) (o := .cells #[.slice Ao14 t215.length co14, .slice Ao16 t218.length co16] 42 (0, 0)) (by (with_reducible repeat (first | refine blk_drewN ?_ _ | refine blk_drew ?_ | refine blk_alloc ?_ _)); exact BK221.out)) : gb245 ≠ gb221))
                    have n18_ := Aside0.mk ((by rw [hg]; exact Nat.ne_of_lt (blk_lt (g := gb236) (o := .cells #[.slice Ao32 t229.length co32, .slice Ao34 t232.length co34] 42 (0, 0)) (by (with_reducible repeat (first | refine blk_drewN ?_ _ | refine blk_drew ?_ | refine blk_alloc ?_ _)); exact BK236.out)) : gb236 ≠ gb245))
                    have n19_ := Aside0.mk ((by rw [hg]; exact Nat.ne_of_gt (blk_lt (g := gb236) (o := .cells #[.slice Ao32 t229.length co32, .slice Ao34 t232.length co34] 42 (0, 0)) (by (with_reducible repeat (first | refine blk_drewN ?_ _ | refine blk_drew ?_ | refine blk_alloc ?_ _)); exact BK236.out)) : gb245 ≠ gb236))
                    clear HO_10
                    clear HO_222000
                    clear HO_222001
                    clear HL228_0
                    clear HO231
                    clear HO234
                    clear HL237_0
                    clear HO240
                    clear HO243
                    clear BK221
                    clear BK236
                    clear HR237_0
                    clear HB
                    have HO_10 := n0_
                    have HO_222000 := n1_
                    have HO_222001 := n2_
                    have HL228_0 := n3_
                    have HO231 := n4_
                    have HO234 := n5_
                    have HL237_0 := n6_
                    have HO240 := n7_
                    have HO243 := n8_
                    have BK221 := n9_
                    have BK236 := n10_
                    have HR237_0 := n11_
                    have HB := n12_
                    have BK245 := n13_
                    have GW245 := n14_
                    have GE245 := n15_
                    have NB221_245 := n16_
                    have NB245_221 := n17_
                    have NB236_245 := n18_
                    have NB245_236 := n19_
                    clear n0_ n1_ n2_ n3_ n4_ n5_ n6_ n7_ n8_ n9_ n10_ n11_ n12_ n13_ n14_ n15_ n16_ n17_ n18_ n19_
                    clear hb hbox hg
                    refine hK.out _ _ ⟨(blk_cell BK221.out 0).trans rfl, (blk_cell BK221.out 1).trans rfl, HS2_⟩ (fun hHeld => ?_)
                    clear hK K
                    refine norm_ (a' := ?_) ?_ ?_
                    rotate_left
                    · show Act.put _ (some 14) _ = _
                      simp only [Act.put, List.setIfInBounds_toArray, List.set_cons_zero, List.set_cons_succ, i64_w, i32_w]
                      rfl
                    exact norm_ (by simp only [putAll, Act.put, List.setIfInBounds_toArray, List.set_cons_zero, List.set_cons_succ]) (hCont (v239, v242, gb245) _ ⟨hHeld, (by (with_reducible repeat (first | apply Kd.V_alloc | apply Kd.V_drewN | apply Kd.V_drew)); exact Kd.V_mono HL228_0.out (fun _ hk => ⟨hk.1.1.1.1, ⟨hk.1.1.1.2.2.2.2.1, ⟨hk.1.1.1.2.2.2.2.2.1, ⟨hk.1.1.2, ⟨hk.1.2, ⟨hk.1.1.1.2.1, ⟨hk.1.1.1.2.2.1, ⟨hk.1.1.1.2.2.2.1, ⟨hk.1.1.1.2.2.2.2.2.2.1, ⟨hk.1.1.1.2.2.2.2.2.2.2, hk.2⟩⟩⟩⟩⟩⟩⟩⟩⟩⟩)), (by (with_reducible repeat (first | apply Kd.V_alloc | apply Kd.V_drewN | apply Kd.V_drew)); exact Kd.V_mono HL237_0.out (fun _ hk => ⟨hk.1.1.1.1.1, ⟨hk.1.1.1.1.2.2.2.1, ⟨hk.1.1.1.1.2.2.2.2.1, ⟨hk.1.1.2, ⟨hk.1.2, ⟨hk.1.1.1.2, ⟨hk.1.1.1.1.2.1, ⟨hk.1.1.1.1.2.2.1, ⟨hk.1.1.1.1.2.2.2.2.2.1, ⟨hk.1.1.1.1.2.2.2.2.2.2, hk.2⟩⟩⟩⟩⟩⟩⟩⟩⟩⟩)), (by (with_reducible repeat (first | apply Kd.R_alloc | apply Kd.R_drewN | apply Kd.R_drew)); exact Kd.R_mono HO231.out (fun _ hk => ⟨hk.1.1.1, ⟨hk.1.1.2.2.2, ⟨hk.1.2, ⟨hk.2, ⟨hk.1.1.2.1, hk.1.1.2.2.1⟩⟩⟩⟩⟩)), (by (with_reducible repeat (first | apply Kd.R_alloc | apply Kd.R_drewN | apply Kd.R_drew)); exact Kd.R_mono HO234.out (fun _ hk => ⟨hk.1.1.1, ⟨hk.1.1.2.2.2, ⟨hk.1.2, ⟨hk.2, ⟨hk.1.1.2.1, hk.1.1.2.2.1⟩⟩⟩⟩⟩)), (by (with_reducible repeat (first | apply Kd.R_alloc | apply Kd.R_drewN | apply Kd.R_drew)); exact Kd.R_mono HO240.out (fun _ hk => ⟨hk.1.1.1.1.1, ⟨hk.1.2, ⟨hk.2, ⟨hk.1.1.1.1.2, ⟨hk.1.1.1.2, hk.1.1.2⟩⟩⟩⟩⟩)), (by (with_reducible repeat (first | apply Kd.R_alloc | apply Kd.R_drewN | apply Kd.R_drew)); exact Kd.R_mono HO243.out (fun _ hk => ⟨hk.1.1.1.1.1, ⟨hk.1.2, ⟨hk.2, ⟨hk.1.1.1.1.2, ⟨hk.1.1.1.2, hk.1.1.2⟩⟩⟩⟩⟩)), (by (with_reducible repeat (first | apply Kd.N_alloc | apply Kd.N_drewN | apply Kd.N_drew)); exact Kd.N_mono HO_10.out (fun _ hk => ⟨hk.1.1.1.1, ⟨hk.1.1.1.2.2.2.1, ⟨hk.1.1.1.2.2.2.2.1, ⟨hk.1.1.2, ⟨hk.1.2, ⟨hk.1.1.1.2.1, ⟨hk.1.1.1.2.2.1, ⟨hk.1.1.1.2.2.2.2.2.1, ⟨hk.1.1.1.2.2.2.2.2.2, hk.2⟩⟩⟩⟩⟩⟩⟩⟩⟩)), (by (with_reducible repeat (first | apply Kd.R_alloc | apply Kd.R_drewN | apply Kd.R_drew)); exact Kd.R_mono HO_222000.out (fun _ hk => ⟨hk.1.1.1, ⟨hk.1.1.2.2.1, ⟨hk.1.1.2.2.2, ⟨hk.1.2, ⟨hk.2, hk.1.1.2.1⟩⟩⟩⟩⟩)), (by (with_reducible repeat (first | apply Kd.R_alloc | apply Kd.R_drewN | apply Kd.R_drew)); exact Kd.R_mono HO_222001.out (fun _ hk => ⟨hk.1.1.1, ⟨hk.1.1.2.2.1, ⟨hk.1.1.2.2.2, ⟨hk.1.2, ⟨hk.2, hk.1.1.2.1⟩⟩⟩⟩⟩)), (by (with_reducible repeat (first | refine blk_drewN ?_ _ | refine blk_drew ?_ | refine blk_alloc ?_ _)); exact BK221.out), (by (with_reducible repeat (first | refine blk_drewN ?_ _ | refine blk_drew ?_ | refine blk_alloc ?_ _)); exact BK236.out), (by (with_reducible repeat (first | refine blk_drewN ?_ _ | refine blk_drew ?_ | refine blk_alloc ?_ _)); exact BK245.out), GW245.out, GE245.out, NB221_245.out, NB245_221.out, NB236_245.out, NB245_236.out, (by repeat (first | (with_reducible first | exact HB.out | apply below_alloc | apply pw_below_drewN | apply below_drew1 | refine below_set ?_ GE221.out | refine below_set ?_ GE236.out | refine below_set ?_ GE245.out) | exact HB.out))⟩)
                  · skip
                    refine box_step ?hg (N := 14) ?hd (cs := #[.slice none 0 0, .slice none 0 0]) (t := 42) ?hr ?_; (case hd => rfl); (case hg => rfl); (case hr => first | (go_simp; done) | (go_simp; rfl))
                    intro gb245 hg w38 hbox hb
                    have HS2_ := (hb.cell (World.block_lt_of_cell? _ _ (hHeld.2.2))).trans (hHeld.2.2)
                    have n0_ := Aside0.mk (Kd.N_below (Kd.N_elderB (by (with_reducible repeat (first | apply Kd.N_alloc | apply Kd.N_drewN | apply Kd.N_drew)); exact HO_10.out) gb245 (Nat.le_of_eq hg.symm)) hb)
                    have n1_ := Aside0.mk (Kd.R_below (by (with_reducible repeat (first | apply Kd.R_alloc | apply Kd.R_drewN | apply Kd.R_drew)); exact HO_222000.out) hb)
                    have n2_ := Aside0.mk (Kd.R_below (by (with_reducible repeat (first | apply Kd.R_alloc | apply Kd.R_drewN | apply Kd.R_drew)); exact HO_222001.out) hb)
                    have n3_ := Aside0.mk (Kd.V_below (Kd.V_elderB (by (with_reducible repeat (first | apply Kd.V_alloc | apply Kd.V_drewN | apply Kd.V_drew)); exact HL228_0.out) gb245 (Nat.le_of_eq hg.symm)) hb)
                    have n4_ := Aside0.mk (Kd.R_below (by (with_reducible repeat (first | apply Kd.R_alloc | apply Kd.R_drewN | apply Kd.R_drew)); exact HO231.out) hb)
                    have n5_ := Aside0.mk (Kd.R_below (by (with_reducible repeat (first | apply Kd.R_alloc | apply Kd.R_drewN | apply Kd.R_drew)); exact HO234.out) hb)
                    have n6_ := Aside0.mk (Kd.V_below (Kd.V_elderB (by (with_reducible repeat (first | apply Kd.V_alloc | apply Kd.V_drewN | apply Kd.V_drew)); exact HL237_0.out) gb245 (Nat.le_of_eq hg.symm)) hb)
                    have n7_ := Aside0.mk (blk_below (g := gb221) (o := .cells #[.slice Ao14 t215.length co14, .slice Ao16 t218.length co16] 42 (0, 0)) (by (with_reducible repeat (first | refine blk_drewN ?_ _ | refine blk_drew ?_ | refine blk_alloc ?_ _)); exact BK221.out) hb)
                    have n8_ := Aside0.mk (blk_below (g := gb236) (o := .cells #[.slice Ao32 t229.length co32, .slice Ao34 t232.length co34] 42 (0, 0)) (by (with_reducible repeat (first | refine blk_drewN ?_ _ | refine blk_drew ?_ | refine blk_alloc ?_ _)); exact BK236.out) hb)
                    have n9_ := Aside0.mk (Kd.C_below (by repeat (first | (with_reducible exact HR237_0.out) | (with_reducible refine Kd.C_alloc ?_ _) | (with_reducible refine Kd.C_drewN ?_ _) | (with_reducible refine Kd.C_drew ?_) | exact HR237_0.out)) hb)
                    have n10_ := Aside0.mk (below_step (by repeat (first | (with_reducible first | exact HB.out | apply below_alloc | apply pw_below_drewN | apply below_drew1 | refine below_set ?_ GE221.out | refine below_set ?_ GE236.out) | exact HB.out)) hb)
                    have n11_ := Aside0.mk (hbox)
                    have n12_ := Aside0.mk ((by rw [hg]; exact (below_size (by repeat (first | (with_reducible first | exact HB.out | apply below_alloc | apply pw_below_drewN | apply below_drew1 | refine below_set ?_ GE221.out | refine below_set ?_ GE236.out) | exact HB.out))) : w.heap.size ≤ gb245))
                    have n13_ := Aside0.mk ((by rw [hg]; exact (below_size (by repeat (first | (with_reducible first | exact HB.out | apply below_alloc | apply pw_below_drewN | apply below_drew1 | refine below_set ?_ GE221.out | refine below_set ?_ GE236.out) | exact HB.out))) : w.heap.size ≤ gb245))
                    have n14_ := Aside0.mk ((by rw [hg]; exact Nat.ne_of_lt (blk_lt (g := gb221) (o := .cells #[.slice Ao14 t215.length co14, .slice Ao16 t218.length co16] 42 (0, 0)) (by (with_reducible repeat (first | refine blk_drewN ?_ _ | refine blk_drew ?_ | refine blk_alloc ?_ _)); exact BK221.out)) : gb221 ≠ gb245))
                    have n15_ := Aside0.mk ((by rw [hg]; exact Nat.ne_of_gt (blk_lt (g := gb221) (o := .cells #[.slice Ao14 t215.length co14, .slice Ao16 t218.length co16] 42 (0, 0)) (by (with_reducible repeat (first | refine blk_drewN ?_ _ | refine blk_drew ?_ | refine blk_alloc ?_ _)); exact BK221.out)) : gb245 ≠ gb221))
                    have n16_ := Aside0.mk ((by rw [hg]; exact Nat.ne_of_lt (blk_lt (g := gb236) (o := .cells #[.slice Ao32 t229.length co32, .slice Ao34 t232.length co34] 42 (0, 0)) (by (with_reducible repeat (first | refine blk_drewN ?_ _ | refine blk_drew ?_ | refine blk_alloc ?_ _)); exact BK236.out)) : gb236 ≠ gb245))
                    have n17_ := Aside0.mk ((by rw [hg]; exact Nat.ne_of_gt (blk_lt (g := gb236) (o := .cells #[.slice Ao32 t229.length co32, .slice Ao34 t232.length co34] 42 (0, 0)) (by (with_reducible repeat (first | refine blk_drewN ?_ _ | refine blk_drew ?_ | refine blk_alloc ?_ _)); exact BK236.out)) : gb245 ≠ gb236))
                    clear HO_10
                    clear HO_222000
                    clear HO_222001
                    clear HL228_0
                    clear HO231
                    clear HO234
                    clear HL237_0
                    clear BK221
                    clear BK236
                    clear HR237_0
                    clear HB
                    have HO_10 := n0_
                    have HO_222000 := n1_
                    have HO_222001 := n2_
                    have HL228_0 := n3_
                    have HO231 := n4_
                    have HO234 := n5_
                    have HL237_0 := n6_
                    have BK221 := n7_
                    have BK236 := n8_
                    have HR237_0 := n9_
                    have HB := n10_
                    have BK245 := n11_
                    have GW245 := n12_
                    have GE245 := n13_
                    have NB221_245 := n14_
                    have NB245_221 := n15_
                    have NB236_245 := n16_
                    have NB245_236 := n17_
                    clear n0_ n1_ n2_ n3_ n4_ n5_ n6_ n7_ n8_ n9_ n10_ n11_ n12_ n13_ n14_ n15_ n16_ n17_
                    clear hb hbox hg
                    refine hK.out _ _ ⟨(blk_cell BK221.out 0).trans rfl, (blk_cell BK221.out 1).trans rfl, HS2_⟩ (fun hHeld => ?_)
                    clear hK K
                    refine norm_ (a' := ?_) ?_ ?_
                    rotate_left
                    · show Act.put _ (some 14) _ = _
                      simp only [Act.put, List.setIfInBounds_toArray, List.set_cons_zero, List.set_cons_succ, i64_w, i32_w]
                      rfl
                    refine one_ (i := 5) (N := some 51) #[true, true, true, true, true, true, false, false, false, true, false, false] rfl rfl (one_of HT_.out (by kernel_rfl)) (by decide) (fun K hK => ?_)
                    refine goes_ Try.func29 (by kernel_rfl) rfl #[.agg #[.slice Ao14 t215.length co14, .slice Ao16 t218.length co16], .slice A237_0 (rd_L1 y225 x11_1).length c237_0] (by rfl) rfl rfl (by (try simp only [List.map_toArray, List.map_cons, List.map_nil]); first | done | rfl | (simp only [List.length_drop, List.length_take]; rfl)) ?_
                    with_reducible refine (synodalref8_Enter.calls k1 _ _ t215 _ _ t218 _ _ (rd_L1 y225 x11_1) t238 t241 t244 _ ?side1 ?side2 ?side3 ?side4 ?side5 ?side6 A25.out).mono ?_
                    (case side1 => repeat (first | exact (Kd.R_reads' HO_222000.out).2.2 | (with_reducible refine Kd.C_alloc ?_ _) | (with_reducible refine Kd.C_drewN ?_ _) | (with_reducible refine Kd.C_drew ?_)))
                    (case side2 => exact (Kd.R_reads' HO_222000.out).2.1)
                    (case side3 => repeat (first | exact (Kd.R_reads' HO_222001.out).2.2 | (with_reducible refine Kd.C_alloc ?_ _) | (with_reducible refine Kd.C_drewN ?_ _) | (with_reducible refine Kd.C_drew ?_)))
                    (case side4 => exact (Kd.R_reads' HO_222001.out).2.1)
                    (case side5 => repeat (first | exact (by repeat (first | (with_reducible exact HR237_0.out) | (with_reducible refine Kd.C_alloc ?_ _) | (with_reducible refine Kd.C_drewN ?_ _) | (with_reducible refine Kd.C_drew ?_) | exact HR237_0.out)) | (with_reducible refine Kd.C_alloc ?_ _) | (with_reducible refine Kd.C_drewN ?_ _) | (with_reducible refine Kd.C_drew ?_)))
                    (case side6 => exact HC237_0.out)
                    rintro e w39 ⟨v239, v242, rfl, ho0, ho1, hb⟩
                    have HS2_ := (hb.cell (World.block_lt_of_cell? _ _ (hHeld.2.2))).trans (hHeld.2.2)
                    refine ⟨_, rfl, ?_⟩
                    have n0_ := Aside0.mk (Kd.N_mono (Kd.N_told (Kd.N_told (Kd.N_old (by (with_reducible repeat (first | apply Kd.N_alloc | apply Kd.N_drewN | apply Kd.N_drew)); exact HO_10.out) hb) (Kd.R_base ho0)) (Kd.R_base ho1)) (fun _ h_ => h_.1))
                    have n1_ := Aside0.mk (Kd.R_mono (Kd.R_told (Kd.R_told (Kd.R_old (by (with_reducible repeat (first | apply Kd.R_alloc | apply Kd.R_drewN | apply Kd.R_drew)); exact HO_222000.out) hb) (Kd.R_base ho0)) (Kd.R_base ho1)) (fun _ h_ => h_.1))
                    have n2_ := Aside0.mk (Kd.R_mono (Kd.R_told (Kd.R_told (Kd.R_old (by (with_reducible repeat (first | apply Kd.R_alloc | apply Kd.R_drewN | apply Kd.R_drew)); exact HO_222001.out) hb) (Kd.R_base ho0)) (Kd.R_base ho1)) (fun _ h_ => h_.1))
                    have n3_ := Aside0.mk (Kd.V_mono (Kd.V_told (Kd.V_told (Kd.V_old (by (with_reducible repeat (first | apply Kd.V_alloc | apply Kd.V_drewN | apply Kd.V_drew)); exact HL228_0.out) hb) (Kd.R_base ho0)) (Kd.R_base ho1)) (fun _ h_ => h_.1))
                    have n4_ := Aside0.mk (Kd.R_mono (Kd.R_told (Kd.R_told (Kd.R_old (by (with_reducible repeat (first | apply Kd.R_alloc | apply Kd.R_drewN | apply Kd.R_drew)); exact HO231.out) hb) (Kd.R_base ho0)) (Kd.R_base ho1)) (fun _ h_ => h_.1))
                    have n5_ := Aside0.mk (Kd.R_mono (Kd.R_told (Kd.R_told (Kd.R_old (by (with_reducible repeat (first | apply Kd.R_alloc | apply Kd.R_drewN | apply Kd.R_drew)); exact HO234.out) hb) (Kd.R_base ho0)) (Kd.R_base ho1)) (fun _ h_ => h_.1))
                    have n6_ := Aside0.mk (Kd.V_mono (Kd.V_told (Kd.V_told (Kd.V_old (by (with_reducible repeat (first | apply Kd.V_alloc | apply Kd.V_drewN | apply Kd.V_drew)); exact HL237_0.out) hb) (Kd.R_base ho0)) (Kd.R_base ho1)) (fun _ h_ => h_.1))
                    have n7_ := Aside0.mk (Kd.R_lower (Kd.R_new' (Kd.R_new' (Kd.R_new' (Kd.R_new' (Kd.R_newM (M := fun k_ => (w.heap.size ≤ k_)) ho0 (below_size (by repeat (first | (with_reducible first | exact HB.out | apply below_alloc | apply pw_below_drewN | apply below_drew1 | refine below_set ?_ GE221.out | refine below_set ?_ GE236.out | refine below_set ?_ GE245.out) | exact HB.out))) (fun k_ h_ => h_)) (Kd.R_lt (by (with_reducible repeat (first | apply Kd.R_alloc | apply Kd.R_drewN | apply Kd.R_drew)); exact HO_222000.out))) (Kd.R_lt (by (with_reducible repeat (first | apply Kd.R_alloc | apply Kd.R_drewN | apply Kd.R_drew)); exact HO_222001.out))) (Kd.R_lt (by (with_reducible repeat (first | apply Kd.R_alloc | apply Kd.R_drewN | apply Kd.R_drew)); exact HO231.out))) (Kd.R_lt (by (with_reducible repeat (first | apply Kd.R_alloc | apply Kd.R_drewN | apply Kd.R_drew)); exact HO234.out))) (below_size (by repeat (first | (with_reducible first | exact HB.out | apply below_alloc | apply pw_below_drewN | apply below_drew1 | refine below_set ?_ GE221.out | refine below_set ?_ GE236.out | refine below_set ?_ GE245.out) | exact HB.out))))
                    have n8_ := Aside0.mk (Kd.R_lower (Kd.R_new' (Kd.R_new' (Kd.R_new' (Kd.R_new' (Kd.R_newM (M := fun k_ => (w.heap.size ≤ k_)) ho1 (below_size (by repeat (first | (with_reducible first | exact HB.out | apply below_alloc | apply pw_below_drewN | apply below_drew1 | refine below_set ?_ GE221.out | refine below_set ?_ GE236.out | refine below_set ?_ GE245.out) | exact HB.out))) (fun k_ h_ => h_)) (Kd.R_lt (by (with_reducible repeat (first | apply Kd.R_alloc | apply Kd.R_drewN | apply Kd.R_drew)); exact HO_222000.out))) (Kd.R_lt (by (with_reducible repeat (first | apply Kd.R_alloc | apply Kd.R_drewN | apply Kd.R_drew)); exact HO_222001.out))) (Kd.R_lt (by (with_reducible repeat (first | apply Kd.R_alloc | apply Kd.R_drewN | apply Kd.R_drew)); exact HO231.out))) (Kd.R_lt (by (with_reducible repeat (first | apply Kd.R_alloc | apply Kd.R_drewN | apply Kd.R_drew)); exact HO234.out))) (below_size (by repeat (first | (with_reducible first | exact HB.out | apply below_alloc | apply pw_below_drewN | apply below_drew1 | refine below_set ?_ GE221.out | refine below_set ?_ GE236.out | refine below_set ?_ GE245.out) | exact HB.out))))
                    have n9_ := Aside0.mk (blk_below (g := gb221) (o := .cells #[.slice Ao14 t215.length co14, .slice Ao16 t218.length co16] 42 (0, 0)) (by (with_reducible repeat (first | refine blk_drewN ?_ _ | refine blk_drew ?_ | refine blk_alloc ?_ _)); exact BK221.out) hb)
                    have n10_ := Aside0.mk (blk_below (g := gb236) (o := .cells #[.slice Ao32 t229.length co32, .slice Ao34 t232.length co34] 42 (0, 0)) (by (with_reducible repeat (first | refine blk_drewN ?_ _ | refine blk_drew ?_ | refine blk_alloc ?_ _)); exact BK236.out) hb)
                    have n11_ := Aside0.mk (Kd.C_below (by repeat (first | (with_reducible exact HR237_0.out) | (with_reducible refine Kd.C_alloc ?_ _) | (with_reducible refine Kd.C_drewN ?_ _) | (with_reducible refine Kd.C_drew ?_) | exact HR237_0.out)) hb)
                    have n12_ := Aside0.mk (blk_below (g := gb245) (o := .cells #[.slice none 0 0, .slice none 0 0] 42 (0, 0)) (by (with_reducible repeat (first | refine blk_drewN ?_ _ | refine blk_drew ?_ | refine blk_alloc ?_ _)); exact BK245.out) hb)
                    have n13_ := Aside0.mk (below_step (by repeat (first | (with_reducible first | exact HB.out | apply below_alloc | apply pw_below_drewN | apply below_drew1 | refine below_set ?_ GE221.out | refine below_set ?_ GE236.out | refine below_set ?_ GE245.out) | exact HB.out)) hb)
                    clear HO_10
                    clear HO_222000
                    clear HO_222001
                    clear HL228_0
                    clear HO231
                    clear HO234
                    clear HL237_0
                    clear BK221
                    clear BK236
                    clear HR237_0
                    clear BK245
                    clear HB
                    have HO_10 := n0_
                    have HO_222000 := n1_
                    have HO_222001 := n2_
                    have HL228_0 := n3_
                    have HO231 := n4_
                    have HO234 := n5_
                    have HL237_0 := n6_
                    have HO240 := n7_
                    have HO243 := n8_
                    have BK221 := n9_
                    have BK236 := n10_
                    have HR237_0 := n11_
                    have BK245 := n12_
                    have HB := n13_
                    clear n0_ n1_ n2_ n3_ n4_ n5_ n6_ n7_ n8_ n9_ n10_ n11_ n12_ n13_
                    (try clear hb)
                    (try clear hb2)
                    (try clear hk)
                    (try clear hi)
                    (try clear ho0)
                    (try clear ho1)
                    refine hK.out _ _ ⟨(blk_cell BK221.out 0).trans rfl, (blk_cell BK221.out 1).trans rfl, HS2_⟩ (fun hHeld => ?_)
                    clear hK K
                    refine norm_ (a' := ?_) ?_ ?_
                    rotate_left
                    · show Act.put _ (some 51) _ = _
                      simp only [Act.put, List.setIfInBounds_toArray, List.set_cons_zero, List.set_cons_succ, i64_w, i32_w]
                      rfl
                    refine pure_ (i := 6) (N := some 45) (v := ?_) (a' := ?_) #[true, true, true, true, true, true, true, false, false, true, false, false] rfl rfl (any_of HT_.out (by kernel_rfl)) (fun _ _ _ h => h) (Or.inl ⟨by rfl, ?_⟩) ?_ ?_
                    rotate_left
                    · intro w'
                      go_simp
                      with_reducible rfl
                    rotate_left
                    · simp only [Act.put, List.setIfInBounds_toArray, List.set_cons_zero, List.set_cons_succ, i64_w, i32_w]
                      rfl
                    refine pure_ (i := 7) (N := some 52) (v := ?_) (a' := ?_) #[true, true, true, true, true, true, true, true, false, true, false, false] rfl rfl (any_of HT_.out (by kernel_rfl)) (fun _ _ _ h => h) (Or.inl ⟨by rfl, ?_⟩) ?_ ?_
                    rotate_left
                    · intro w'
                      go_simp
                      with_reducible rfl
                    rotate_left
                    · simp only [Act.put, List.setIfInBounds_toArray, List.set_cons_zero, List.set_cons_succ, i64_w, i32_w]
                      rfl
                    refine pure_ (i := 8) (N := some 53) (v := ?_) (a' := ?_) #[true, true, true, true, true, true, true, true, true, true, false, false] rfl rfl (any_of HT_.out (by kernel_rfl)) (fun _ _ _ h => h) (Or.inl ⟨by rfl, ?_⟩) ?_ ?_
                    rotate_left
                    · intro w'
                      go_simp
                      with_reducible rfl
                    rotate_left
                    · simp only [Act.put, List.setIfInBounds_toArray, List.set_cons_zero, List.set_cons_succ, i64_w, i32_w]
                      rfl
                    exact norm_ (by simp only [putAll, Act.put, List.setIfInBounds_toArray, List.set_cons_zero, List.set_cons_succ]) (hCont (v239, v242, gb245) _ ⟨hHeld, (by (with_reducible repeat (first | apply Kd.V_alloc | apply Kd.V_drewN | apply Kd.V_drew)); exact Kd.V_mono HL228_0.out (fun _ hk => ⟨hk.1.1.1.1, ⟨hk.1.1.1.2.2.2.2.1, ⟨hk.1.1.1.2.2.2.2.2.1, ⟨hk.1.2, ⟨hk.2, ⟨hk.1.1.1.2.1, ⟨hk.1.1.1.2.2.1, ⟨hk.1.1.1.2.2.2.1, ⟨hk.1.1.1.2.2.2.2.2.2.1, ⟨hk.1.1.1.2.2.2.2.2.2.2, hk.1.1.2⟩⟩⟩⟩⟩⟩⟩⟩⟩⟩)), (by (with_reducible repeat (first | apply Kd.V_alloc | apply Kd.V_drewN | apply Kd.V_drew)); exact Kd.V_mono HL237_0.out (fun _ hk => ⟨hk.1.1.1.1.1, ⟨hk.1.1.1.1.2.2.2.1, ⟨hk.1.1.1.1.2.2.2.2.1, ⟨hk.1.2, ⟨hk.2, ⟨hk.1.1.1.2, ⟨hk.1.1.1.1.2.1, ⟨hk.1.1.1.1.2.2.1, ⟨hk.1.1.1.1.2.2.2.2.2.1, ⟨hk.1.1.1.1.2.2.2.2.2.2, hk.1.1.2⟩⟩⟩⟩⟩⟩⟩⟩⟩⟩)), (by (with_reducible repeat (first | apply Kd.R_alloc | apply Kd.R_drewN | apply Kd.R_drew)); exact Kd.R_mono HO231.out (fun _ hk => ⟨hk.1.1.1, ⟨hk.1.1.2.2.2, ⟨hk.1.2, ⟨hk.2, ⟨hk.1.1.2.1, hk.1.1.2.2.1⟩⟩⟩⟩⟩)), (by (with_reducible repeat (first | apply Kd.R_alloc | apply Kd.R_drewN | apply Kd.R_drew)); exact Kd.R_mono HO234.out (fun _ hk => ⟨hk.1.1.1, ⟨hk.1.1.2.2.2, ⟨hk.1.2, ⟨hk.2, ⟨hk.1.1.2.1, hk.1.1.2.2.1⟩⟩⟩⟩⟩)), (by (with_reducible repeat (first | apply Kd.R_alloc | apply Kd.R_drewN | apply Kd.R_drew)); exact Kd.R_mono HO240.out (fun _ hk => ⟨hk.1.1.1.1.1, ⟨hk.1.2, ⟨hk.2, ⟨hk.1.1.1.1.2, ⟨hk.1.1.1.2, hk.1.1.2⟩⟩⟩⟩⟩)), (by (with_reducible repeat (first | apply Kd.R_alloc | apply Kd.R_drewN | apply Kd.R_drew)); exact Kd.R_mono HO243.out (fun _ hk => ⟨hk.1.1.1.1.1, ⟨hk.1.2, ⟨hk.2, ⟨hk.1.1.1.1.2, ⟨hk.1.1.1.2, hk.1.1.2⟩⟩⟩⟩⟩)), (by (with_reducible repeat (first | apply Kd.N_alloc | apply Kd.N_drewN | apply Kd.N_drew)); exact Kd.N_mono HO_10.out (fun _ hk => ⟨hk.1.1.1.1, ⟨hk.1.1.1.2.2.2.1, ⟨hk.1.1.1.2.2.2.2.1, ⟨hk.1.2, ⟨hk.2, ⟨hk.1.1.1.2.1, ⟨hk.1.1.1.2.2.1, ⟨hk.1.1.1.2.2.2.2.2.1, ⟨hk.1.1.1.2.2.2.2.2.2, hk.1.1.2⟩⟩⟩⟩⟩⟩⟩⟩⟩)), (by (with_reducible repeat (first | apply Kd.R_alloc | apply Kd.R_drewN | apply Kd.R_drew)); exact Kd.R_mono HO_222000.out (fun _ hk => ⟨hk.1.1.1, ⟨hk.1.1.2.2.1, ⟨hk.1.1.2.2.2, ⟨hk.1.2, ⟨hk.2, hk.1.1.2.1⟩⟩⟩⟩⟩)), (by (with_reducible repeat (first | apply Kd.R_alloc | apply Kd.R_drewN | apply Kd.R_drew)); exact Kd.R_mono HO_222001.out (fun _ hk => ⟨hk.1.1.1, ⟨hk.1.1.2.2.1, ⟨hk.1.1.2.2.2, ⟨hk.1.2, ⟨hk.2, hk.1.1.2.1⟩⟩⟩⟩⟩)), (by (with_reducible repeat (first | refine blk_drewN ?_ _ | refine blk_drew ?_ | refine blk_alloc ?_ _)); exact BK221.out), (by (with_reducible repeat (first | refine blk_drewN ?_ _ | refine blk_drew ?_ | refine blk_alloc ?_ _)); exact BK236.out), (by (with_reducible repeat (first | refine blk_drewN ?_ _ | refine blk_drew ?_ | refine blk_alloc ?_ _)); exact BK245.out), GW245.out, GE245.out, NB221_245.out, NB245_221.out, NB236_245.out, NB245_236.out, (by repeat (first | (with_reducible first | exact HB.out | apply below_alloc | apply pw_below_drewN | apply below_drew1 | refine below_set ?_ GE221.out | refine below_set ?_ GE236.out | refine below_set ?_ GE245.out) | exact HB.out))⟩)
                rintro ⟨v239, v242, gb245⟩ w40 ⟨hS_, h0_, h1_, h2_, h3_, h4_, h5_, h6_, h7_, h8_, h9_, h10_, h11_, h12_, h13_, h14_, h15_, h16_, h17_, h18_⟩
                have n0_ : Aside0 (Kd.V (Kd.int .i64) 3 w40 w.heap.size (fun k_ => (P2_ k_ ∨ w.heap.size ≤ k_) ∧ some k_ ≠ (.slice Ao32 t229.length co32 : Value).ownBlock ∧ some k_ ≠ (.slice Ao34 t232.length co34 : Value).ownBlock ∧ some k_ ≠ (v239 : Value).ownBlock ∧ some k_ ≠ (v242 : Value).ownBlock ∧ some k_ ≠ (.slice (some ad228) y225.length co28 : Value).ownBlock ∧ some k_ ≠ (.slice Ao14 t215.length co14 : Value).ownBlock ∧ some k_ ≠ (.slice Ao16 t218.length co16 : Value).ownBlock ∧ k_ ≠ gb221 ∧ k_ ≠ gb236 ∧ k_ ≠ gb245) (.slice A228_0 (rd_L1 y225 x11_1).length c228_0) (rd_L1 y225 x11_1)) := ⟨h0_⟩
                have n1_ : Aside0 (Kd.V (Kd.int .i64) 3 w40 w.heap.size (fun k_ => (P2_ k_ ∨ w.heap.size ≤ k_) ∧ some k_ ≠ (.slice Ao32 t229.length co32 : Value).ownBlock ∧ some k_ ≠ (.slice Ao34 t232.length co34 : Value).ownBlock ∧ some k_ ≠ (v239 : Value).ownBlock ∧ some k_ ≠ (v242 : Value).ownBlock ∧ some k_ ≠ (.slice (some ad228) y225.length co28 : Value).ownBlock ∧ some k_ ≠ (.slice Ao14 t215.length co14 : Value).ownBlock ∧ some k_ ≠ (.slice Ao16 t218.length co16 : Value).ownBlock ∧ k_ ≠ gb221 ∧ k_ ≠ gb236 ∧ k_ ≠ gb245) (.slice A237_0 (rd_L1 y225 x11_1).length c237_0) (rd_L1 y225 x11_1)) := ⟨h1_⟩
                have n2_ : Aside0 (Kd.R (Kd.int .i64) 3 w40 w.heap.size (fun k_ => (w.heap.size ≤ k_) ∧ some k_ ≠ (.slice Ao34 t232.length co34 : Value).ownBlock ∧ some k_ ≠ (v239 : Value).ownBlock ∧ some k_ ≠ (v242 : Value).ownBlock ∧ some k_ ≠ (.slice Ao14 t215.length co14 : Value).ownBlock ∧ some k_ ≠ (.slice Ao16 t218.length co16 : Value).ownBlock) (.slice Ao32 t229.length co32) t229) := ⟨h2_⟩
                have n3_ : Aside0 (Kd.R (Kd.int .i64) 3 w40 w.heap.size (fun k_ => (w.heap.size ≤ k_) ∧ some k_ ≠ (.slice Ao32 t229.length co32 : Value).ownBlock ∧ some k_ ≠ (v239 : Value).ownBlock ∧ some k_ ≠ (v242 : Value).ownBlock ∧ some k_ ≠ (.slice Ao14 t215.length co14 : Value).ownBlock ∧ some k_ ≠ (.slice Ao16 t218.length co16 : Value).ownBlock) (.slice Ao34 t232.length co34) t232) := ⟨h3_⟩
                have n4_ : Aside0 (Kd.R (Kd.int .i64) 3 w40 w.heap.size (fun k_ => (w.heap.size ≤ k_) ∧ some k_ ≠ (.slice Ao32 t229.length co32 : Value).ownBlock ∧ some k_ ≠ (.slice Ao34 t232.length co34 : Value).ownBlock ∧ some k_ ≠ (v242 : Value).ownBlock ∧ some k_ ≠ (.slice Ao14 t215.length co14 : Value).ownBlock ∧ some k_ ≠ (.slice Ao16 t218.length co16 : Value).ownBlock) v239 t238) := ⟨h4_⟩
                have n5_ : Aside0 (Kd.R (Kd.int .i64) 3 w40 w.heap.size (fun k_ => (w.heap.size ≤ k_) ∧ some k_ ≠ (.slice Ao32 t229.length co32 : Value).ownBlock ∧ some k_ ≠ (.slice Ao34 t232.length co34 : Value).ownBlock ∧ some k_ ≠ (v239 : Value).ownBlock ∧ some k_ ≠ (.slice Ao14 t215.length co14 : Value).ownBlock ∧ some k_ ≠ (.slice Ao16 t218.length co16 : Value).ownBlock) v242 t241) := ⟨h5_⟩
                have n6_ : Aside0 (Kd.N (Kd.slice 3 (Kd.int .i64)) 22 w40 w.heap.size (fun k_ => (P2_ k_ ∨ w.heap.size ≤ k_) ∧ some k_ ≠ (.slice Ao32 t229.length co32 : Value).ownBlock ∧ some k_ ≠ (.slice Ao34 t232.length co34 : Value).ownBlock ∧ some k_ ≠ (v239 : Value).ownBlock ∧ some k_ ≠ (v242 : Value).ownBlock ∧ some k_ ≠ (.slice Ao14 t215.length co14 : Value).ownBlock ∧ some k_ ≠ (.slice Ao16 t218.length co16 : Value).ownBlock ∧ k_ ≠ gb221 ∧ k_ ≠ gb236 ∧ k_ ≠ gb245) (.slice (some ad228) y225.length co28) y225) := ⟨h6_⟩
                have n7_ : Aside0 (Kd.R (Kd.int .i64) 3 w40 w.heap.size (fun k_ => (w.heap.size ≤ k_) ∧ some k_ ≠ (.slice Ao32 t229.length co32 : Value).ownBlock ∧ some k_ ≠ (.slice Ao34 t232.length co34 : Value).ownBlock ∧ some k_ ≠ (v239 : Value).ownBlock ∧ some k_ ≠ (v242 : Value).ownBlock ∧ some k_ ≠ (.slice Ao16 t218.length co16 : Value).ownBlock) (.slice Ao14 t215.length co14) t215) := ⟨h7_⟩
                have n8_ : Aside0 (Kd.R (Kd.int .i64) 3 w40 w.heap.size (fun k_ => (w.heap.size ≤ k_) ∧ some k_ ≠ (.slice Ao32 t229.length co32 : Value).ownBlock ∧ some k_ ≠ (.slice Ao34 t232.length co34 : Value).ownBlock ∧ some k_ ≠ (v239 : Value).ownBlock ∧ some k_ ≠ (v242 : Value).ownBlock ∧ some k_ ≠ (.slice Ao14 t215.length co14 : Value).ownBlock) (.slice Ao16 t218.length co16) t218) := ⟨h8_⟩
                have n9_ : Aside0 (w40.heap[gb221]? = some (.cells #[.slice Ao14 t215.length co14, .slice Ao16 t218.length co16] 42 (0, 0))) := ⟨h9_⟩
                have n10_ : Aside0 (w40.heap[gb236]? = some (.cells #[.slice Ao32 t229.length co32, .slice Ao34 t232.length co34] 42 (0, 0))) := ⟨h10_⟩
                have n11_ : Aside0 (w40.heap[gb245]? = some (.cells #[.slice none 0 0, .slice none 0 0] 42 (0, 0))) := ⟨h11_⟩
                have n12_ : Aside0 (w.heap.size ≤ gb245) := ⟨h12_⟩
                have n13_ : Aside0 (w.heap.size ≤ gb245) := ⟨h13_⟩
                have n14_ : Aside0 (gb221 ≠ gb245) := ⟨h14_⟩
                have n15_ : Aside0 (gb245 ≠ gb221) := ⟨h15_⟩
                have n16_ : Aside0 (gb236 ≠ gb245) := ⟨h16_⟩
                have n17_ : Aside0 (gb245 ≠ gb236) := ⟨h17_⟩
                have n18_ : Aside0 (Below w.heap.size w w40) := ⟨h18_⟩
                clear HO_10
                clear HO_222000
                clear HO_222001
                clear HL228_0
                clear HO231
                clear HO234
                clear BK221
                clear BK236
                clear HB
                clear h0_ h1_ h2_ h3_ h4_ h5_ h6_ h7_ h8_ h9_ h10_ h11_ h12_ h13_ h14_ h15_ h16_ h17_ h18_
                have HL228_0 := n0_
                have HL237_0 := n1_
                have HO231 := n2_
                have HO234 := n3_
                have HO240 := n4_
                have HO243 := n5_
                have HO_10 := n6_
                have HO_222000 := n7_
                have HO_222001 := n8_
                have BK221 := n9_
                have BK236 := n10_
                have BK245 := n11_
                have GW245 := n12_
                have GE245 := n13_
                have NB221_245 := n14_
                have NB245_221 := n15_
                have NB236_245 := n16_
                have NB245_236 := n17_
                have HB := n18_
                clear n0_ n1_ n2_ n3_ n4_ n5_ n6_ n7_ n8_ n9_ n10_ n11_ n12_ n13_ n14_ n15_ n16_ n17_ n18_
                have hHeld : w40.cell? ⟨gb221, 0, none⟩ = some (.slice Ao14 t215.length co14) ∧ w40.cell? ⟨gb221, 1, none⟩ = some (.slice Ao16 t218.length co16) ∧ w40.cell? (ad228.add (x11_1).toNat) = some (.slice A237_0 (rd_L1 y225 x11_1).length c237_0) := hS_
                obtain ⟨Ao41, co41, eo41⟩ := Kd.R_slice HO240.out
                (first | subst eo41 | (injection eo41 with f1_ f2_ f3_; have f4_ := f1_.symm; have f5_ := f3_.symm; clear f1_ f2_ f3_; subst f4_; subst f5_))
                obtain ⟨Ao43, co43, eo43⟩ := Kd.R_slice HO243.out
                (first | subst eo43 | (injection eo43 with f1_ f2_ f3_; have f4_ := f1_.symm; have f5_ := f3_.symm; clear f1_ f2_ f3_; subst f4_; subst f5_))
                refine norm_ (a' := ?_) ?_ ?_
                rotate_left
                · simp only [putAll, Act.put, List.setIfInBounds_toArray, List.set_cons_zero, List.set_cons_succ]
                  rfl
                refine one_ (i := 10) (N := none) #[true, true, true, true, true, true, true, true, true, true, true, false] rfl rfl (one_of HT_.out (by kernel_rfl)) (by decide) (fun K hK => ?_)
                have hs42 : w40.cell? ⟨gb245, 0, none⟩ = some (.slice none 0 0) := (blk_cell BK245.out 0).trans rfl
                have hfs42 := blk_frozen BK245.out 0
                have hns42_0 := NB221_245.out
                have hns42_1 := NB236_245.out
                have hms42_0 := NB245_221.out
                have hms42_1 := NB245_236.out
                have hs44 : w40.cell? ⟨gb245, 1, none⟩ = some (.slice none 0 0) := (blk_cell BK245.out 1).trans rfl
                have hfs44 := blk_frozen BK245.out 1
                have hns44_0 := NB221_245.out
                have hns44_1 := NB236_245.out
                have hms44_0 := NB245_221.out
                have hms44_1 := NB245_236.out
                refine skip_ (w1 := ?_) (by rfl) rfl ?_ ?_
                rotate_left
                · go_simp
                  rfl
                refine hK.out _ _ ⟨((cell_far (p := ⟨gb245, _, none⟩) NB221_245.out _).trans (((cell_far (p := ⟨gb245, _, none⟩) NB221_245.out _).trans (hHeld.1)))), ((cell_far (p := ⟨gb245, _, none⟩) NB221_245.out _).trans (((cell_far (p := ⟨gb245, _, none⟩) NB221_245.out _).trans (hHeld.2.1)))), ((cell_far (p := ⟨gb245, _, none⟩) (by first | exact Kd.own_blk (Kd.N_away HO_10.out (fun _ hk => hk.2.2.2.2.2.2.2.2.2)) | (rw [add_block]; exact Kd.own_blk (Kd.N_away HO_10.out (fun _ hk => hk.2.2.2.2.2.2.2.2.2))) | (show (Addr.add _ _).block ≠ _; rw [add_block]; exact Kd.own_blk (Kd.N_away HO_10.out (fun _ hk => hk.2.2.2.2.2.2.2.2.2))) | (dsimp only; exact Kd.own_blk (Kd.N_away HO_10.out (fun _ hk => hk.2.2.2.2.2.2.2.2.2)))) _).trans (((cell_far (p := ⟨gb245, _, none⟩) (by first | exact Kd.own_blk (Kd.N_away HO_10.out (fun _ hk => hk.2.2.2.2.2.2.2.2.2)) | (rw [add_block]; exact Kd.own_blk (Kd.N_away HO_10.out (fun _ hk => hk.2.2.2.2.2.2.2.2.2))) | (show (Addr.add _ _).block ≠ _; rw [add_block]; exact Kd.own_blk (Kd.N_away HO_10.out (fun _ hk => hk.2.2.2.2.2.2.2.2.2))) | (dsimp only; exact Kd.own_blk (Kd.N_away HO_10.out (fun _ hk => hk.2.2.2.2.2.2.2.2.2)))) _).trans (hHeld.2.2))))⟩ (fun hHeld => ?_)
                clear hK K
                refine pure_ (i := 11) (N := some 15) (v := ?_) (a' := ?_) #[true, true, true, true, true, true, true, true, true, true, true, true] rfl rfl (any_of HT_.out (by kernel_rfl)) (fun _ _ _ h => h) (Or.inl ⟨by rfl, ?_⟩) ?_ ?_
                rotate_left
                · intro w'
                  go_simp
                  with_reducible rfl
                rotate_left
                · simp only [Act.put, List.setIfInBounds_toArray, List.set_cons_zero, List.set_cons_succ, i64_w, i32_w]
                  rfl
                refine done_ (done_of HT_.out (by kernel_rfl)) ?_
                go_upto_region 12 with (fail)
                go_cut [62] (fun v62 wc => ∃ (kq : Nat) (x62_25 : Bool), v62 = .bool x62_25 ∧ Aside0 (synodallaw8_ConfSteps.j1 kq y225 x11_1 x62_25 t215 t218 = some r) ∧ Aside0 (kq ≤ k1) ∧ Aside0 (Kd.N (Kd.slice 3 (Kd.int .i64)) 22 wc w.heap.size (fun k_ => (P2_ k_ ∨ w.heap.size ≤ k_) ∧ some k_ ≠ ((.slice Ao14 t215.length co14) : Value).ownBlock ∧ some k_ ≠ ((.slice Ao16 t218.length co16) : Value).ownBlock ∧ some k_ ≠ ((.slice Ao32 t229.length co32) : Value).ownBlock ∧ some k_ ≠ ((.slice Ao34 t232.length co34) : Value).ownBlock ∧ some k_ ≠ ((.slice Ao41 t238.length co41) : Value).ownBlock ∧ some k_ ≠ ((.slice Ao43 t241.length co43) : Value).ownBlock ∧ k_ ≠ gb221 ∧ k_ ≠ gb236 ∧ k_ ≠ gb245) (.slice (some ad228) y225.length co28) y225) ∧ Aside0 (Kd.R (Kd.int .i64) 3 wc w.heap.size (fun k_ => (w.heap.size ≤ k_) ∧ some k_ ≠ ((.slice Ao16 t218.length co16) : Value).ownBlock ∧ some k_ ≠ ((.slice Ao32 t229.length co32) : Value).ownBlock ∧ some k_ ≠ ((.slice Ao34 t232.length co34) : Value).ownBlock ∧ some k_ ≠ ((.slice Ao41 t238.length co41) : Value).ownBlock ∧ some k_ ≠ ((.slice Ao43 t241.length co43) : Value).ownBlock) (.slice Ao14 t215.length co14) t215) ∧ Aside0 (Kd.R (Kd.int .i64) 3 wc w.heap.size (fun k_ => (w.heap.size ≤ k_) ∧ some k_ ≠ ((.slice Ao14 t215.length co14) : Value).ownBlock ∧ some k_ ≠ ((.slice Ao32 t229.length co32) : Value).ownBlock ∧ some k_ ≠ ((.slice Ao34 t232.length co34) : Value).ownBlock ∧ some k_ ≠ ((.slice Ao41 t238.length co41) : Value).ownBlock ∧ some k_ ≠ ((.slice Ao43 t241.length co43) : Value).ownBlock) (.slice Ao16 t218.length co16) t218) ∧ Aside0 (Kd.R (Kd.int .i64) 3 wc w.heap.size (fun k_ => (w.heap.size ≤ k_) ∧ some k_ ≠ ((.slice Ao14 t215.length co14) : Value).ownBlock ∧ some k_ ≠ ((.slice Ao16 t218.length co16) : Value).ownBlock ∧ some k_ ≠ ((.slice Ao34 t232.length co34) : Value).ownBlock ∧ some k_ ≠ ((.slice Ao41 t238.length co41) : Value).ownBlock ∧ some k_ ≠ ((.slice Ao43 t241.length co43) : Value).ownBlock) (.slice Ao32 t229.length co32) t229) ∧ Aside0 (Kd.R (Kd.int .i64) 3 wc w.heap.size (fun k_ => (w.heap.size ≤ k_) ∧ some k_ ≠ ((.slice Ao14 t215.length co14) : Value).ownBlock ∧ some k_ ≠ ((.slice Ao16 t218.length co16) : Value).ownBlock ∧ some k_ ≠ ((.slice Ao32 t229.length co32) : Value).ownBlock ∧ some k_ ≠ ((.slice Ao41 t238.length co41) : Value).ownBlock ∧ some k_ ≠ ((.slice Ao43 t241.length co43) : Value).ownBlock) (.slice Ao34 t232.length co34) t232) ∧ Aside0 (Kd.R (Kd.int .i64) 3 wc w.heap.size (fun k_ => (w.heap.size ≤ k_) ∧ some k_ ≠ ((.slice Ao14 t215.length co14) : Value).ownBlock ∧ some k_ ≠ ((.slice Ao16 t218.length co16) : Value).ownBlock ∧ some k_ ≠ ((.slice Ao32 t229.length co32) : Value).ownBlock ∧ some k_ ≠ ((.slice Ao34 t232.length co34) : Value).ownBlock ∧ some k_ ≠ ((.slice Ao43 t241.length co43) : Value).ownBlock) (.slice Ao41 t238.length co41) t238) ∧ Aside0 (Kd.R (Kd.int .i64) 3 wc w.heap.size (fun k_ => (w.heap.size ≤ k_) ∧ some k_ ≠ ((.slice Ao14 t215.length co14) : Value).ownBlock ∧ some k_ ≠ ((.slice Ao16 t218.length co16) : Value).ownBlock ∧ some k_ ≠ ((.slice Ao32 t229.length co32) : Value).ownBlock ∧ some k_ ≠ ((.slice Ao34 t232.length co34) : Value).ownBlock ∧ some k_ ≠ ((.slice Ao41 t238.length co41) : Value).ownBlock) (.slice Ao43 t241.length co43) t241) ∧ Aside0 (wc.heap[gb221]? = some (.cells #[(.slice Ao14 t215.length co14), (.slice Ao16 t218.length co16)] 42 (0, 0))) ∧ Aside0 (wc.heap[gb236]? = some (.cells #[(.slice Ao32 t229.length co32), (.slice Ao34 t232.length co34)] 42 (0, 0))) ∧ Aside0 (wc.heap[gb245]? = some (.cells #[(.slice Ao41 t238.length co41), (.slice Ao43 t241.length co43)] 42 (0, 0))) ∧ Aside0 (Below w.heap.size w wc))
                case first =>
                  have H := HC26.out
                  clear HC26
                  by_cases c45 : t235 = t244
                  · rw [if_pos c45] at H
                    have c45b0 : (t235 == t244) = true := beq_iff_eq.mpr c45
                    have c45b1 : (t235 != t244) = false := bne_eq_false_iff_eq.mpr c45
                    clear c45
                    (first | rw [c45b0] | (simp only [i64_w, i32_w]; rw [c45b0]) | skip)
                    replace H := Option.bind_eq_some_iff.mp H
                    obtain ⟨t246, A460, H⟩ := H
                    replace H : (synodallaw8_ConfSteps.j1 k1 y225 x11_1 (!t246) t215 t218) = some r := H
                    have A46 := Aside0.mk A460
                    clear A460
                    have H' := Aside0.mk H
                    clear H
                    have hnb47 := NB236_221.out
                    have hnc47 := NB221_236.out
                    have hnb48 := NB236_245.out
                    have hnc48 := NB245_236.out
                    have hcz49_0 : w40.cell? ⟨gb236, 0, none⟩ = some (.slice Ao32 t229.length co32) := (blk_cell BK236.out 0).trans rfl
                    have hcz49_1 : w40.cell? ⟨gb236, 1, none⟩ = some (.slice Ao34 t232.length co34) := (blk_cell BK236.out 1).trans rfl
                    have hfz49_0 := blk_frozen BK236.out 0
                    have hfz49_1 := blk_frozen BK236.out 1
                    have hnb50 := NB245_221.out
                    have hnc50 := NB221_245.out
                    have hcz51_0 : w40.cell? ⟨gb245, 0, none⟩ = some (.slice none 0 0) := (blk_cell BK245.out 0).trans rfl
                    have hcz51_1 : w40.cell? ⟨gb245, 1, none⟩ = some (.slice none 0 0) := (blk_cell BK245.out 1).trans rfl
                    have hfz51_0 := blk_frozen BK245.out 0
                    have hfz51_1 := blk_frozen BK245.out 1
                    go_wp2_with (first | (go_at_call 30; (with_reducible refine (synodalref8_Same.calls k1 _ _ t229 _ _ t232 _ _ t238 _ _ t241 t246 _ ?side1 ?side2 ?side3 ?side4 ?side5 ?side6 ?side7 ?side8 A46.out).mono ?_); (case side1 => refine (Kd.R_reads' (e := 3) (base := w.heap.size) (ok := fun k_ => ((w.heap.size ≤ k_) ∧ (some k_ ≠ (.slice Ao34 t232.length co34 : Value).ownBlock ∧ (some k_ ≠ (.slice Ao41 t238.length co41 : Value).ownBlock ∧ (some k_ ≠ (.slice Ao43 t241.length co43 : Value).ownBlock ∧ (some k_ ≠ (.slice Ao14 t215.length co14 : Value).ownBlock ∧ some k_ ≠ (.slice Ao16 t218.length co16 : Value).ownBlock)))))) (n := t229.length) (c := co32) ?_).2.2; exact (by (with_reducible repeat (first | apply Kd.R_alloc | apply Kd.R_drewN | apply Kd.R_drew)); exact (Kd.R_mono (Kd.R_far (p := ⟨gb245, 1, none⟩) (Kd.R_far (p := ⟨gb245, 0, none⟩) (Kd.R_types HO231.out BK245.out (by decide)) (fun _ hk => hk.2) (.slice Ao41 t238.length co41)) (fun _ hk => hk.2) (.slice Ao43 t241.length co43)) (fun _ h_ => h_.1)))); (case side2 => exact (Kd.R_reads' HO231.out).2.1); (case side3 => refine (Kd.R_reads' (e := 3) (base := w.heap.size) (ok := fun k_ => ((w.heap.size ≤ k_) ∧ (some k_ ≠ (.slice Ao32 t229.length co32 : Value).ownBlock ∧ (some k_ ≠ (.slice Ao41 t238.length co41 : Value).ownBlock ∧ (some k_ ≠ (.slice Ao43 t241.length co43 : Value).ownBlock ∧ (some k_ ≠ (.slice Ao14 t215.length co14 : Value).ownBlock ∧ some k_ ≠ (.slice Ao16 t218.length co16 : Value).ownBlock)))))) (n := t232.length) (c := co34) ?_).2.2; exact (by (with_reducible repeat (first | apply Kd.R_alloc | apply Kd.R_drewN | apply Kd.R_drew)); exact (Kd.R_mono (Kd.R_far (p := ⟨gb245, 1, none⟩) (Kd.R_far (p := ⟨gb245, 0, none⟩) (Kd.R_types HO234.out BK245.out (by decide)) (fun _ hk => hk.2) (.slice Ao41 t238.length co41)) (fun _ hk => hk.2) (.slice Ao43 t241.length co43)) (fun _ h_ => h_.1)))); (case side4 => exact (Kd.R_reads' HO234.out).2.1); (case side5 => refine (Kd.R_reads' (e := 3) (base := w.heap.size) (ok := fun k_ => ((w.heap.size ≤ k_) ∧ (some k_ ≠ (.slice Ao32 t229.length co32 : Value).ownBlock ∧ (some k_ ≠ (.slice Ao34 t232.length co34 : Value).ownBlock ∧ (some k_ ≠ (.slice Ao43 t241.length co43 : Value).ownBlock ∧ (some k_ ≠ (.slice Ao14 t215.length co14 : Value).ownBlock ∧ some k_ ≠ (.slice Ao16 t218.length co16 : Value).ownBlock)))))) (n := t238.length) (c := co41) ?_).2.2; exact (by (with_reducible repeat (first | apply Kd.R_alloc | apply Kd.R_drewN | apply Kd.R_drew)); exact (Kd.R_mono (Kd.R_far (p := ⟨gb245, 1, none⟩) (Kd.R_far (p := ⟨gb245, 0, none⟩) (Kd.R_types HO240.out BK245.out (by decide)) (fun _ hk => hk.2) (.slice Ao41 t238.length co41)) (fun _ hk => hk.2) (.slice Ao43 t241.length co43)) (fun _ h_ => h_.1)))); (case side6 => exact (Kd.R_reads' HO240.out).2.1); (case side7 => refine (Kd.R_reads' (e := 3) (base := w.heap.size) (ok := fun k_ => ((w.heap.size ≤ k_) ∧ (some k_ ≠ (.slice Ao32 t229.length co32 : Value).ownBlock ∧ (some k_ ≠ (.slice Ao34 t232.length co34 : Value).ownBlock ∧ (some k_ ≠ (.slice Ao41 t238.length co41 : Value).ownBlock ∧ (some k_ ≠ (.slice Ao14 t215.length co14 : Value).ownBlock ∧ some k_ ≠ (.slice Ao16 t218.length co16 : Value).ownBlock)))))) (n := t241.length) (c := co43) ?_).2.2; exact (by (with_reducible repeat (first | apply Kd.R_alloc | apply Kd.R_drewN | apply Kd.R_drew)); exact (Kd.R_mono (Kd.R_far (p := ⟨gb245, 1, none⟩) (Kd.R_far (p := ⟨gb245, 0, none⟩) (Kd.R_types HO243.out BK245.out (by decide)) (fun _ hk => hk.2) (.slice Ao41 t238.length co41)) (fun _ hk => hk.2) (.slice Ao43 t241.length co43)) (fun _ h_ => h_.1)))); (case side8 => exact (Kd.R_reads' HO243.out).2.1); rintro e w52 ⟨rfl, hb⟩; have n0_ := Aside0.mk (Kd.N_below (by (with_reducible repeat (first | apply Kd.N_alloc | apply Kd.N_drewN | apply Kd.N_drew)); exact (Kd.N_mono (Kd.N_far (p := ⟨gb245, 1, none⟩) (Kd.N_far (p := ⟨gb245, 0, none⟩) (Kd.N_mono HO_10.out (fun k_ hk => (⟨hk, hk.2.2.2.2.2.2.2.2.2⟩ : _ ∧ k_ ≠ gb245))) (fun _ hk => hk.2) (.slice Ao41 t238.length co41)) (fun _ hk => hk.2) (.slice Ao43 t241.length co43)) (fun _ h_ => h_.1))) hb); have n1_ := Aside0.mk (Kd.R_below (by (with_reducible repeat (first | apply Kd.R_alloc | apply Kd.R_drewN | apply Kd.R_drew)); exact (Kd.R_mono (Kd.R_far (p := ⟨gb245, 1, none⟩) (Kd.R_far (p := ⟨gb245, 0, none⟩) (Kd.R_types HO_222000.out BK245.out (by decide)) (fun _ hk => hk.2) (.slice Ao41 t238.length co41)) (fun _ hk => hk.2) (.slice Ao43 t241.length co43)) (fun _ h_ => h_.1))) hb); have n2_ := Aside0.mk (Kd.R_below (by (with_reducible repeat (first | apply Kd.R_alloc | apply Kd.R_drewN | apply Kd.R_drew)); exact (Kd.R_mono (Kd.R_far (p := ⟨gb245, 1, none⟩) (Kd.R_far (p := ⟨gb245, 0, none⟩) (Kd.R_types HO_222001.out BK245.out (by decide)) (fun _ hk => hk.2) (.slice Ao41 t238.length co41)) (fun _ hk => hk.2) (.slice Ao43 t241.length co43)) (fun _ h_ => h_.1))) hb); have n3_ := Aside0.mk (Kd.V_below (by (with_reducible repeat (first | apply Kd.V_alloc | apply Kd.V_drewN | apply Kd.V_drew)); exact (Kd.V_mono (Kd.V_far (p := ⟨gb245, 1, none⟩) (Kd.V_far (p := ⟨gb245, 0, none⟩) (Kd.V_mono HL228_0.out (fun k_ hk => (⟨hk, hk.2.2.2.2.2.2.2.2.2.2⟩ : _ ∧ k_ ≠ gb245))) (fun _ hk => hk.2) (.slice Ao41 t238.length co41)) (fun _ hk => hk.2) (.slice Ao43 t241.length co43)) (fun _ h_ => h_.1))) hb); have n4_ := Aside0.mk (Kd.R_below (by (with_reducible repeat (first | apply Kd.R_alloc | apply Kd.R_drewN | apply Kd.R_drew)); exact (Kd.R_mono (Kd.R_far (p := ⟨gb245, 1, none⟩) (Kd.R_far (p := ⟨gb245, 0, none⟩) (Kd.R_types HO231.out BK245.out (by decide)) (fun _ hk => hk.2) (.slice Ao41 t238.length co41)) (fun _ hk => hk.2) (.slice Ao43 t241.length co43)) (fun _ h_ => h_.1))) hb); have n5_ := Aside0.mk (Kd.R_below (by (with_reducible repeat (first | apply Kd.R_alloc | apply Kd.R_drewN | apply Kd.R_drew)); exact (Kd.R_mono (Kd.R_far (p := ⟨gb245, 1, none⟩) (Kd.R_far (p := ⟨gb245, 0, none⟩) (Kd.R_types HO234.out BK245.out (by decide)) (fun _ hk => hk.2) (.slice Ao41 t238.length co41)) (fun _ hk => hk.2) (.slice Ao43 t241.length co43)) (fun _ h_ => h_.1))) hb); have n6_ := Aside0.mk (Kd.V_below (by (with_reducible repeat (first | apply Kd.V_alloc | apply Kd.V_drewN | apply Kd.V_drew)); exact (Kd.V_mono (Kd.V_far (p := ⟨gb245, 1, none⟩) (Kd.V_far (p := ⟨gb245, 0, none⟩) (Kd.V_mono HL237_0.out (fun k_ hk => (⟨hk, hk.2.2.2.2.2.2.2.2.2.2⟩ : _ ∧ k_ ≠ gb245))) (fun _ hk => hk.2) (.slice Ao41 t238.length co41)) (fun _ hk => hk.2) (.slice Ao43 t241.length co43)) (fun _ h_ => h_.1))) hb); have n7_ := Aside0.mk (Kd.R_below (by (with_reducible repeat (first | apply Kd.R_alloc | apply Kd.R_drewN | apply Kd.R_drew)); exact (Kd.R_mono (Kd.R_far (p := ⟨gb245, 1, none⟩) (Kd.R_far (p := ⟨gb245, 0, none⟩) (Kd.R_types HO240.out BK245.out (by decide)) (fun _ hk => hk.2) (.slice Ao41 t238.length co41)) (fun _ hk => hk.2) (.slice Ao43 t241.length co43)) (fun _ h_ => h_.1))) hb); have n8_ := Aside0.mk (Kd.R_below (by (with_reducible repeat (first | apply Kd.R_alloc | apply Kd.R_drewN | apply Kd.R_drew)); exact (Kd.R_mono (Kd.R_far (p := ⟨gb245, 1, none⟩) (Kd.R_far (p := ⟨gb245, 0, none⟩) (Kd.R_types HO243.out BK245.out (by decide)) (fun _ hk => hk.2) (.slice Ao41 t238.length co41)) (fun _ hk => hk.2) (.slice Ao43 t241.length co43)) (fun _ h_ => h_.1))) hb); have n9_ := Aside0.mk (blk_below (g := gb221) (o := .cells #[.slice Ao14 t215.length co14, .slice Ao16 t218.length co16] 42 (0, 0)) (by (with_reducible repeat (first | refine blk_drewN ?_ _ | refine blk_drew ?_ | refine blk_alloc ?_ _)); refine blk_far ?_ NB221_245.out _; (with_reducible repeat (first | refine blk_drewN ?_ _ | refine blk_drew ?_ | refine blk_alloc ?_ _)); refine blk_far ?_ NB221_245.out _; (with_reducible repeat (first | refine blk_drewN ?_ _ | refine blk_drew ?_ | refine blk_alloc ?_ _)); exact BK221.out) hb); have n10_ := Aside0.mk (blk_below (g := gb236) (o := .cells #[.slice Ao32 t229.length co32, .slice Ao34 t232.length co34] 42 (0, 0)) (by (with_reducible repeat (first | refine blk_drewN ?_ _ | refine blk_drew ?_ | refine blk_alloc ?_ _)); refine blk_far ?_ NB236_245.out _; (with_reducible repeat (first | refine blk_drewN ?_ _ | refine blk_drew ?_ | refine blk_alloc ?_ _)); refine blk_far ?_ NB236_245.out _; (with_reducible repeat (first | refine blk_drewN ?_ _ | refine blk_drew ?_ | refine blk_alloc ?_ _)); exact BK236.out) hb); have n11_ := Aside0.mk (blk_below (g := gb245) (o := .cells #[.slice Ao41 t238.length co41, .slice Ao43 t241.length co43] 42 (0, 0)) (by (with_reducible repeat (first | refine blk_drewN ?_ _ | refine blk_drew ?_ | refine blk_alloc ?_ _)); refine blk_put (cs := #[.slice Ao41 t238.length co41, .slice none 0 0]) ?_ 1 _ rfl; (with_reducible repeat (first | refine blk_drewN ?_ _ | refine blk_drew ?_ | refine blk_alloc ?_ _)); refine blk_put (cs := #[.slice none 0 0, .slice none 0 0]) ?_ 0 _ rfl; (with_reducible repeat (first | refine blk_drewN ?_ _ | refine blk_drew ?_ | refine blk_alloc ?_ _)); exact BK245.out) hb); have n12_ := Aside0.mk (below_step (by repeat (first | (with_reducible first | exact HB.out | apply below_alloc | apply pw_below_drewN | apply below_drew1 | refine below_set ?_ GE221.out | refine below_set ?_ GE236.out | refine below_set ?_ GE245.out) | exact HB.out)) hb); clear HO_10; clear HO_222000; clear HO_222001; clear HL228_0; clear HO231; clear HO234; clear HL237_0; clear HO240; clear HO243; clear BK221; clear BK236; clear BK245; clear HB; have HO_10 := n0_; have HO_222000 := n1_; have HO_222001 := n2_; have HL228_0 := n3_; have HO231 := n4_; have HO234 := n5_; have HL237_0 := n6_; have HO240 := n7_; have HO243 := n8_; have BK221 := n9_; have BK236 := n10_; have BK245 := n11_; have HB := n12_; clear n0_ n1_ n2_ n3_ n4_ n5_ n6_ n7_ n8_ n9_ n10_ n11_ n12_; (try clear hb); (try clear hb2); (try clear hk); (try clear hi)))
                    go_meet
                    case rel => exact ⟨_, (!t246), (by first | rfl | (simp; done) | (simp [*]; done)), H', ⟨by have := HK1.out; first | omega | exact Nat.le_refl _⟩, ⟨by (with_reducible repeat (first | apply Kd.N_alloc | apply Kd.N_drewN | apply Kd.N_drew)); exact Kd.N_mono HO_10.out (fun _ hk => ⟨hk.1, ⟨hk.2.2.2.2.2.1, ⟨hk.2.2.2.2.2.2.1, ⟨hk.2.1, ⟨hk.2.2.1, ⟨hk.2.2.2.1, ⟨hk.2.2.2.2.1, ⟨hk.2.2.2.2.2.2.2.1, ⟨hk.2.2.2.2.2.2.2.2.1, hk.2.2.2.2.2.2.2.2.2⟩⟩⟩⟩⟩⟩⟩⟩⟩)⟩, ⟨by (with_reducible repeat (first | apply Kd.R_alloc | apply Kd.R_drewN | apply Kd.R_drew)); exact Kd.R_mono HO_222000.out (fun _ hk => ⟨hk.1, ⟨hk.2.2.2.2.2, ⟨hk.2.1, ⟨hk.2.2.1, ⟨hk.2.2.2.1, hk.2.2.2.2.1⟩⟩⟩⟩⟩)⟩, ⟨by (with_reducible repeat (first | apply Kd.R_alloc | apply Kd.R_drewN | apply Kd.R_drew)); exact Kd.R_mono HO_222001.out (fun _ hk => ⟨hk.1, ⟨hk.2.2.2.2.2, ⟨hk.2.1, ⟨hk.2.2.1, ⟨hk.2.2.2.1, hk.2.2.2.2.1⟩⟩⟩⟩⟩)⟩, ⟨by (with_reducible repeat (first | apply Kd.R_alloc | apply Kd.R_drewN | apply Kd.R_drew)); exact Kd.R_mono HO231.out (fun _ hk => ⟨hk.1, ⟨hk.2.2.2.2.1, ⟨hk.2.2.2.2.2, ⟨hk.2.1, ⟨hk.2.2.1, hk.2.2.2.1⟩⟩⟩⟩⟩)⟩, ⟨by (with_reducible repeat (first | apply Kd.R_alloc | apply Kd.R_drewN | apply Kd.R_drew)); exact Kd.R_mono HO234.out (fun _ hk => ⟨hk.1, ⟨hk.2.2.2.2.1, ⟨hk.2.2.2.2.2, ⟨hk.2.1, ⟨hk.2.2.1, hk.2.2.2.1⟩⟩⟩⟩⟩)⟩, ⟨by (with_reducible repeat (first | apply Kd.R_alloc | apply Kd.R_drewN | apply Kd.R_drew)); exact Kd.R_mono HO240.out (fun _ hk => ⟨hk.1, ⟨hk.2.2.2.2.1, ⟨hk.2.2.2.2.2, ⟨hk.2.1, ⟨hk.2.2.1, hk.2.2.2.1⟩⟩⟩⟩⟩)⟩, ⟨by (with_reducible repeat (first | apply Kd.R_alloc | apply Kd.R_drewN | apply Kd.R_drew)); exact Kd.R_mono HO243.out (fun _ hk => ⟨hk.1, ⟨hk.2.2.2.2.1, ⟨hk.2.2.2.2.2, ⟨hk.2.1, ⟨hk.2.2.1, hk.2.2.2.1⟩⟩⟩⟩⟩)⟩, ⟨by (with_reducible repeat (first | refine blk_drewN ?_ _ | refine blk_drew ?_ | refine blk_alloc ?_ _)); exact BK221.out⟩, ⟨by (with_reducible repeat (first | refine blk_drewN ?_ _ | refine blk_drew ?_ | refine blk_alloc ?_ _)); exact BK236.out⟩, ⟨by (with_reducible repeat (first | refine blk_drewN ?_ _ | refine blk_drew ?_ | refine blk_alloc ?_ _)); exact BK245.out⟩, ⟨by repeat (first | (with_reducible first | exact HB.out | apply below_alloc | apply pw_below_drewN | apply below_drew1 | refine below_set ?_ GE221.out | refine below_set ?_ GE236.out | refine below_set ?_ GE245.out) | exact HB.out)⟩⟩
                  · rw [if_neg c45] at H
                    have c45b0 : (t235 == t244) = false := beq_eq_false_iff_ne.mpr c45
                    have c45b1 : (t235 != t244) = true := bne_iff_ne.mpr c45
                    (first | rw [c45b0] | (simp only [i64_w, i32_w]; rw [c45b0]) | skip)
                    have H' := Aside0.mk H
                    clear H
                    go_wp2
                    go_meet
                    case rel => exact ⟨_, (true), (by first | rfl | (simp; done) | (simp [*]; done)), H', ⟨by have := HK1.out; first | omega | exact Nat.le_refl _⟩, ⟨by (with_reducible repeat (first | apply Kd.N_alloc | apply Kd.N_drewN | apply Kd.N_drew)); exact Kd.N_mono (Kd.N_far (p := ⟨gb245, 1, none⟩) (Kd.N_far (p := ⟨gb245, 0, none⟩) (Kd.N_mono HO_10.out (fun k_ hk => (⟨hk, hk.2.2.2.2.2.2.2.2.2⟩ : _ ∧ k_ ≠ gb245))) (fun _ hk => hk.2) (.slice Ao41 t238.length co41)) (fun _ hk => hk.2) (.slice Ao43 t241.length co43)) (fun _ hk => ⟨hk.1.1, ⟨hk.1.2.2.2.2.2.1, ⟨hk.1.2.2.2.2.2.2.1, ⟨hk.1.2.1, ⟨hk.1.2.2.1, ⟨hk.1.2.2.2.1, ⟨hk.1.2.2.2.2.1, ⟨hk.1.2.2.2.2.2.2.2.1, ⟨hk.1.2.2.2.2.2.2.2.2.1, hk.1.2.2.2.2.2.2.2.2.2⟩⟩⟩⟩⟩⟩⟩⟩⟩)⟩, ⟨by (with_reducible repeat (first | apply Kd.R_alloc | apply Kd.R_drewN | apply Kd.R_drew)); exact Kd.R_mono (Kd.R_far (p := ⟨gb245, 1, none⟩) (Kd.R_far (p := ⟨gb245, 0, none⟩) (Kd.R_types HO_222000.out BK245.out (by decide)) (fun _ hk => hk.2) (.slice Ao41 t238.length co41)) (fun _ hk => hk.2) (.slice Ao43 t241.length co43)) (fun _ hk => ⟨hk.1.1, ⟨hk.1.2.2.2.2.2, ⟨hk.1.2.1, ⟨hk.1.2.2.1, ⟨hk.1.2.2.2.1, hk.1.2.2.2.2.1⟩⟩⟩⟩⟩)⟩, ⟨by (with_reducible repeat (first | apply Kd.R_alloc | apply Kd.R_drewN | apply Kd.R_drew)); exact Kd.R_mono (Kd.R_far (p := ⟨gb245, 1, none⟩) (Kd.R_far (p := ⟨gb245, 0, none⟩) (Kd.R_types HO_222001.out BK245.out (by decide)) (fun _ hk => hk.2) (.slice Ao41 t238.length co41)) (fun _ hk => hk.2) (.slice Ao43 t241.length co43)) (fun _ hk => ⟨hk.1.1, ⟨hk.1.2.2.2.2.2, ⟨hk.1.2.1, ⟨hk.1.2.2.1, ⟨hk.1.2.2.2.1, hk.1.2.2.2.2.1⟩⟩⟩⟩⟩)⟩, ⟨by (with_reducible repeat (first | apply Kd.R_alloc | apply Kd.R_drewN | apply Kd.R_drew)); exact Kd.R_mono (Kd.R_far (p := ⟨gb245, 1, none⟩) (Kd.R_far (p := ⟨gb245, 0, none⟩) (Kd.R_types HO231.out BK245.out (by decide)) (fun _ hk => hk.2) (.slice Ao41 t238.length co41)) (fun _ hk => hk.2) (.slice Ao43 t241.length co43)) (fun _ hk => ⟨hk.1.1, ⟨hk.1.2.2.2.2.1, ⟨hk.1.2.2.2.2.2, ⟨hk.1.2.1, ⟨hk.1.2.2.1, hk.1.2.2.2.1⟩⟩⟩⟩⟩)⟩, ⟨by (with_reducible repeat (first | apply Kd.R_alloc | apply Kd.R_drewN | apply Kd.R_drew)); exact Kd.R_mono (Kd.R_far (p := ⟨gb245, 1, none⟩) (Kd.R_far (p := ⟨gb245, 0, none⟩) (Kd.R_types HO234.out BK245.out (by decide)) (fun _ hk => hk.2) (.slice Ao41 t238.length co41)) (fun _ hk => hk.2) (.slice Ao43 t241.length co43)) (fun _ hk => ⟨hk.1.1, ⟨hk.1.2.2.2.2.1, ⟨hk.1.2.2.2.2.2, ⟨hk.1.2.1, ⟨hk.1.2.2.1, hk.1.2.2.2.1⟩⟩⟩⟩⟩)⟩, ⟨by (with_reducible repeat (first | apply Kd.R_alloc | apply Kd.R_drewN | apply Kd.R_drew)); exact Kd.R_mono (Kd.R_far (p := ⟨gb245, 1, none⟩) (Kd.R_far (p := ⟨gb245, 0, none⟩) (Kd.R_types HO240.out BK245.out (by decide)) (fun _ hk => hk.2) (.slice Ao41 t238.length co41)) (fun _ hk => hk.2) (.slice Ao43 t241.length co43)) (fun _ hk => ⟨hk.1.1, ⟨hk.1.2.2.2.2.1, ⟨hk.1.2.2.2.2.2, ⟨hk.1.2.1, ⟨hk.1.2.2.1, hk.1.2.2.2.1⟩⟩⟩⟩⟩)⟩, ⟨by (with_reducible repeat (first | apply Kd.R_alloc | apply Kd.R_drewN | apply Kd.R_drew)); exact Kd.R_mono (Kd.R_far (p := ⟨gb245, 1, none⟩) (Kd.R_far (p := ⟨gb245, 0, none⟩) (Kd.R_types HO243.out BK245.out (by decide)) (fun _ hk => hk.2) (.slice Ao41 t238.length co41)) (fun _ hk => hk.2) (.slice Ao43 t241.length co43)) (fun _ hk => ⟨hk.1.1, ⟨hk.1.2.2.2.2.1, ⟨hk.1.2.2.2.2.2, ⟨hk.1.2.1, ⟨hk.1.2.2.1, hk.1.2.2.2.1⟩⟩⟩⟩⟩)⟩, ⟨by (with_reducible repeat (first | refine blk_drewN ?_ _ | refine blk_drew ?_ | refine blk_alloc ?_ _)); refine blk_far ?_ NB221_245.out _; (with_reducible repeat (first | refine blk_drewN ?_ _ | refine blk_drew ?_ | refine blk_alloc ?_ _)); refine blk_far ?_ NB221_245.out _; (with_reducible repeat (first | refine blk_drewN ?_ _ | refine blk_drew ?_ | refine blk_alloc ?_ _)); exact BK221.out⟩, ⟨by (with_reducible repeat (first | refine blk_drewN ?_ _ | refine blk_drew ?_ | refine blk_alloc ?_ _)); refine blk_far ?_ NB236_245.out _; (with_reducible repeat (first | refine blk_drewN ?_ _ | refine blk_drew ?_ | refine blk_alloc ?_ _)); refine blk_far ?_ NB236_245.out _; (with_reducible repeat (first | refine blk_drewN ?_ _ | refine blk_drew ?_ | refine blk_alloc ?_ _)); exact BK236.out⟩, ⟨by (with_reducible repeat (first | refine blk_drewN ?_ _ | refine blk_drew ?_ | refine blk_alloc ?_ _)); refine blk_put (cs := #[.slice Ao41 t238.length co41, .slice none 0 0]) ?_ 1 _ rfl; (with_reducible repeat (first | refine blk_drewN ?_ _ | refine blk_drew ?_ | refine blk_alloc ?_ _)); refine blk_put (cs := #[.slice none 0 0, .slice none 0 0]) ?_ 0 _ rfl; (with_reducible repeat (first | refine blk_drewN ?_ _ | refine blk_drew ?_ | refine blk_alloc ?_ _)); exact BK245.out⟩, ⟨by repeat (first | (with_reducible first | exact HB.out | apply below_alloc | apply pw_below_drewN | apply below_drew1 | refine below_set ?_ GE221.out | refine below_set ?_ GE236.out | refine below_set ?_ GE245.out) | exact HB.out)⟩⟩
                case rest =>
                  clear HC26
                  try clear c2
                  try clear p2
                  try clear q2
                  try clear hx2
                  try clear c4
                  try clear c5
                  try clear c22
                  try clear c23
                  try clear p23
                  try clear q23
                  try clear hx23
                  try clear c29
                  try clear c45
                  try clear c45b0
                  try clear c45b1
                  try clear c47
                  try clear c48
                  try clear c50
                  try clear hcz49_0
                  try clear hcz49_1
                  try clear hcz51_0
                  try clear hcz51_1
                  try clear hfz49_0
                  try clear hfz49_1
                  try clear hfz51_0
                  try clear hfz51_1
                  try clear hx237_0
                  try clear p237
                  try clear q237
                  obtain ⟨kq, x62_25, rfl, HA, HJ25, HO_10, HO_222000, HO_222001, HO_237000, HO_237001, HO_246000, HO_246001, BK221, BK236, BK245, HB⟩ := hcut
                  cases kq with
                  | zero => exact absurd HA.out (by simp [synodallaw8_ConfSteps.j1])
                  | succ kj25 =>
                    have H := HA.out
                    clear HA
                    simp only [synodallaw8_ConfSteps.j1] at H
                    by_cases c53 : x62_25 = true
                    · subst c53
                      have H1 : (some false) = some r := by rw [if_pos rfl] at H; exact H
                      clear H
                      have H := H1
                      clear H1
                      obtain rfl := Option.some.inj H
                      go_wp2
                      go_ret
                      exact ⟨by first | rfl | (simp [errW_none, errW_some] <;> rfl) | (simp [*, errW_none, errW_some] <;> rfl), by repeat (first | (with_reducible first | exact HB.out | apply below_alloc | apply pw_below_drewN | apply below_drew1 | refine below_set ?_ GE221.out | refine below_set ?_ GE236.out | refine below_set ?_ GE245.out) | exact HB.out)⟩
                    · replace c53 := Bool.eq_false_iff.mpr c53
                      subst c53
                      have H1 : (synodallaw8_ConfSteps.l0 kj25 y225 (wrap64 (x11_1 + 1)) t215 t218) = some r := by rw [if_neg (show ¬ (false = true) by decide)] at H; exact H
                      clear H
                      have H := H1
                      clear H1
                      have H' := Aside0.mk H
                      clear H
                      go_wp2
                      go_roundg kj25
                      case measure => have := HK1.out; have := HJ25.out; omega
                      case rel => exact ⟨(wrap64 (x11_1 + 1)), (by first | rfl | (simp; done) | (simp [*]; done)), H', ⟨by have := HK1.out; have := HJ25.out; omega⟩, ⟨by (with_reducible repeat (first | apply Kd.N_alloc | apply Kd.N_drewN | apply Kd.N_drew)); exact Kd.N_mono HO_10.out (fun _ hk => ⟨hk.1, ⟨hk.2.1, ⟨hk.2.2.1, hk.2.2.2.2.2.2.2.1⟩⟩⟩)⟩, ⟨by (with_reducible repeat (first | apply Kd.R_alloc | apply Kd.R_drewN | apply Kd.R_drew)); exact Kd.R_mono HO_222000.out (fun _ hk => ⟨hk.1, hk.2.1⟩)⟩, ⟨by (with_reducible repeat (first | apply Kd.R_alloc | apply Kd.R_drewN | apply Kd.R_drew)); exact Kd.R_mono HO_222001.out (fun _ hk => ⟨hk.1, hk.2.1⟩)⟩, ⟨by (with_reducible repeat (first | refine blk_drewN ?_ _ | refine blk_drew ?_ | refine blk_alloc ?_ _)); exact BK221.out⟩, ⟨by repeat (first | (with_reducible first | exact HB.out | apply below_alloc | apply pw_below_drewN | apply below_drew1 | refine below_set ?_ GE221.out | refine below_set ?_ GE236.out | refine below_set ?_ GE245.out) | exact HB.out)⟩⟩
              · rw [if_neg c23] at H
                exact absurd H (by simp)
            · rw [if_neg c22] at H
              exact absurd H (by simp)
          · rw [if_neg c21] at H
            have c21b0 : decide (x11_1 < 2) = false := decide_eq_false c21
            clear c21
            replace H := Option.bind_eq_some_iff.mp H
            obtain ⟨⟨t247, t250, t253⟩, A540, H⟩ := H
            replace H : ((synodalref8_Leave.f t215 t218).bind fun bt255 => (if t253 = bt255.2.2 then ((synodalref8_Same.f k1 t247 t250 bt255.1 bt255.2.1).bind fun t263 => (some t263)) else (some false))) = some r := H
            have A54 := Aside0.mk A540
            clear A540
            replace H := Option.bind_eq_some_iff.mp H
            obtain ⟨⟨t255, t258, t261⟩, A550, H⟩ := H
            replace H : (if t253 = t261 then ((synodalref8_Same.f k1 t247 t250 t255 t258).bind fun t263 => (some t263)) else (some false)) = some r := H
            have A55 := Aside0.mk A550
            clear A550
            by_cases c56 : t253 = t261
            · rw [if_pos c56] at H
              have c56b0 : (t253 == t261) = true := beq_iff_eq.mpr c56
              have c56b1 : (t253 != t261) = false := bne_eq_false_iff_eq.mpr c56
              clear c56
              replace H := Option.bind_eq_some_iff.mp H
              obtain ⟨t263, A570, H⟩ := H
              replace H : (some t263) = some r := H
              have A57 := Aside0.mk A570
              clear A570
              obtain rfl := Option.some.inj H
              have hcz58_0 : wr.cell? ⟨gb221, 0, none⟩ = some (.slice Ao14 t215.length co14) := (blk_cell BK221.out 0).trans rfl
              have hcz58_1 : wr.cell? ⟨gb221, 1, none⟩ = some (.slice Ao16 t218.length co16) := (blk_cell BK221.out 1).trans rfl
              have hfz58_0 := blk_frozen BK221.out 0
              have hfz58_1 := blk_frozen BK221.out 1
              go_wp2_with (first | ((with_reducible refine gate_callee (f := 31) rfl ?_); refine goesL_ (some 65) rfl rfl Try.func31 (by kernel_rfl) rfl #[.agg #[.slice Ao14 t215.length co14, .slice Ao16 t218.length co16]] rfl (by (try simp only [List.map_toArray, List.map_cons, List.map_nil]); first | done | rfl | (simp only [List.length_drop, List.length_take]; rfl)) ?_; (with_reducible refine (conf_Leave.calls _ _ t215 _ _ t218 t247 t250 t253 _ ?side1 ?side2 ?side3 ?side4 A54.out).mono ?_); (case side1 => repeat (first | exact (Kd.R_reads' HO_222000.out).2.2 | (with_reducible refine Kd.C_alloc ?_ _) | (with_reducible refine Kd.C_drewN ?_ _) | (with_reducible refine Kd.C_drew ?_))); (case side2 => exact (Kd.R_reads' HO_222000.out).2.1); (case side3 => repeat (first | exact (Kd.R_reads' HO_222001.out).2.2 | (with_reducible refine Kd.C_alloc ?_ _) | (with_reducible refine Kd.C_drewN ?_ _) | (with_reducible refine Kd.C_drew ?_))); (case side4 => exact (Kd.R_reads' HO_222001.out).2.1); rintro e w59 ⟨v248, v251, rfl, ho0, ho1, hb⟩; refine ⟨_, rfl, ?_⟩; have n0_ := Aside0.mk (Kd.N_mono (Kd.N_told (Kd.N_told (Kd.N_old (by (with_reducible repeat (first | apply Kd.N_alloc | apply Kd.N_drewN | apply Kd.N_drew)); exact HO_10.out) hb) (Kd.R_base ho0)) (Kd.R_base ho1)) (fun _ h_ => h_.1)); have n1_ := Aside0.mk (Kd.R_mono (Kd.R_told (Kd.R_told (Kd.R_old (by (with_reducible repeat (first | apply Kd.R_alloc | apply Kd.R_drewN | apply Kd.R_drew)); exact HO_222000.out) hb) (Kd.R_base ho0)) (Kd.R_base ho1)) (fun _ h_ => h_.1)); have n2_ := Aside0.mk (Kd.R_mono (Kd.R_told (Kd.R_told (Kd.R_old (by (with_reducible repeat (first | apply Kd.R_alloc | apply Kd.R_drewN | apply Kd.R_drew)); exact HO_222001.out) hb) (Kd.R_base ho0)) (Kd.R_base ho1)) (fun _ h_ => h_.1)); have n3_ := Aside0.mk (Kd.R_lower (Kd.R_new' (Kd.R_new' (Kd.R_newM (M := fun k_ => (w.heap.size ≤ k_)) ho0 (below_size (by repeat (first | (with_reducible first | exact HB.out | apply below_alloc | apply pw_below_drewN | apply below_drew1 | refine below_set ?_ GE221.out) | exact HB.out))) (fun k_ h_ => h_)) (Kd.R_lt (by (with_reducible repeat (first | apply Kd.R_alloc | apply Kd.R_drewN | apply Kd.R_drew)); exact HO_222000.out))) (Kd.R_lt (by (with_reducible repeat (first | apply Kd.R_alloc | apply Kd.R_drewN | apply Kd.R_drew)); exact HO_222001.out))) (below_size (by repeat (first | (with_reducible first | exact HB.out | apply below_alloc | apply pw_below_drewN | apply below_drew1 | refine below_set ?_ GE221.out) | exact HB.out)))); have n4_ := Aside0.mk (Kd.R_lower (Kd.R_new' (Kd.R_new' (Kd.R_newM (M := fun k_ => (w.heap.size ≤ k_)) ho1 (below_size (by repeat (first | (with_reducible first | exact HB.out | apply below_alloc | apply pw_below_drewN | apply below_drew1 | refine below_set ?_ GE221.out) | exact HB.out))) (fun k_ h_ => h_)) (Kd.R_lt (by (with_reducible repeat (first | apply Kd.R_alloc | apply Kd.R_drewN | apply Kd.R_drew)); exact HO_222000.out))) (Kd.R_lt (by (with_reducible repeat (first | apply Kd.R_alloc | apply Kd.R_drewN | apply Kd.R_drew)); exact HO_222001.out))) (below_size (by repeat (first | (with_reducible first | exact HB.out | apply below_alloc | apply pw_below_drewN | apply below_drew1 | refine below_set ?_ GE221.out) | exact HB.out)))); have n5_ := Aside0.mk (blk_below (g := gb221) (o := .cells #[.slice Ao14 t215.length co14, .slice Ao16 t218.length co16] 42 (0, 0)) (by (with_reducible repeat (first | refine blk_drewN ?_ _ | refine blk_drew ?_ | refine blk_alloc ?_ _)); exact BK221.out) hb); have n6_ := Aside0.mk (below_step (by repeat (first | (with_reducible first | exact HB.out | apply below_alloc | apply pw_below_drewN | apply below_drew1 | refine below_set ?_ GE221.out) | exact HB.out)) hb); clear HO_10; clear HO_222000; clear HO_222001; clear BK221; clear HB; have HO_10 := n0_; have HO_222000 := n1_; have HO_222001 := n2_; have HO249 := n3_; have HO252 := n4_; have BK221 := n5_; have HB := n6_; clear n0_ n1_ n2_ n3_ n4_ n5_ n6_; (try clear hb); (try clear hb2); (try clear hk); (try clear hi); (try clear ho0); (try clear ho1)) | ((with_reducible refine gate_dst (N := 16) rfl ?_); refine box_event ?hg (N := 16) ?hd (cs := #[.slice none 0 0, .slice none 0 0]) (t := 42) ?hr ?_; (case hd => rfl); (case hg => rfl); (case hr => first | (go_simp; done) | (go_simp; rfl)); intro gb254 hg w60 hbox hb; have n0_ := Aside0.mk (Kd.N_below (Kd.N_elderB (by (with_reducible repeat (first | apply Kd.N_alloc | apply Kd.N_drewN | apply Kd.N_drew)); exact HO_10.out) gb254 (Nat.le_of_eq hg.symm)) hb); have n1_ := Aside0.mk (Kd.R_below (by (with_reducible repeat (first | apply Kd.R_alloc | apply Kd.R_drewN | apply Kd.R_drew)); exact HO_222000.out) hb); have n2_ := Aside0.mk (Kd.R_below (by (with_reducible repeat (first | apply Kd.R_alloc | apply Kd.R_drewN | apply Kd.R_drew)); exact HO_222001.out) hb); have n3_ := Aside0.mk (Kd.R_below (by (with_reducible repeat (first | apply Kd.R_alloc | apply Kd.R_drewN | apply Kd.R_drew)); exact HO249.out) hb); have n4_ := Aside0.mk (Kd.R_below (by (with_reducible repeat (first | apply Kd.R_alloc | apply Kd.R_drewN | apply Kd.R_drew)); exact HO252.out) hb); have n5_ := Aside0.mk (blk_below (g := gb221) (o := .cells #[.slice Ao14 t215.length co14, .slice Ao16 t218.length co16] 42 (0, 0)) (by (with_reducible repeat (first | refine blk_drewN ?_ _ | refine blk_drew ?_ | refine blk_alloc ?_ _)); exact BK221.out) hb); have n6_ := Aside0.mk (below_step (by repeat (first | (with_reducible first | exact HB.out | apply below_alloc | apply pw_below_drewN | apply below_drew1 | refine below_set ?_ GE221.out) | exact HB.out)) hb); have n7_ := Aside0.mk (hbox); have n8_ := Aside0.mk ((by rw [hg]; exact (below_size (by repeat (first | (with_reducible first | exact HB.out | apply below_alloc | apply pw_below_drewN | apply below_drew1 | refine below_set ?_ GE221.out) | exact HB.out))) : w.heap.size ≤ gb254)); have n9_ := Aside0.mk ((by rw [hg]; exact (below_size (by repeat (first | (with_reducible first | exact HB.out | apply below_alloc | apply pw_below_drewN | apply below_drew1 | refine below_set ?_ GE221.out) | exact HB.out))) : w.heap.size ≤ gb254)); have n10_ := Aside0.mk ((by rw [hg]; exact Nat.ne_of_lt (blk_lt (g := gb221) (o := .cells #[.slice Ao14 t215.length co14, .slice Ao16 t218.length co16] 42 (0, 0)) (by (with_reducible repeat (first | refine blk_drewN ?_ _ | refine blk_drew ?_ | refine blk_alloc ?_ _)); exact BK221.out)) : gb221 ≠ gb254)); have n11_ := Aside0.mk ((by rw [hg]; exact Nat.ne_of_gt (blk_lt (g := gb221) (o := .cells #[.slice Ao14 t215.length co14, .slice Ao16 t218.length co16] 42 (0, 0)) (by (with_reducible repeat (first | refine blk_drewN ?_ _ | refine blk_drew ?_ | refine blk_alloc ?_ _)); exact BK221.out)) : gb254 ≠ gb221)); clear HO_10; clear HO_222000; clear HO_222001; clear HO249; clear HO252; clear BK221; clear HB; have HO_10 := n0_; have HO_222000 := n1_; have HO_222001 := n2_; have HO249 := n3_; have HO252 := n4_; have BK221 := n5_; have HB := n6_; have BK254 := n7_; have GW254 := n8_; have GE254 := n9_; have NB221_254 := n10_; have NB254_221 := n11_; clear n0_ n1_ n2_ n3_ n4_ n5_ n6_ n7_ n8_ n9_ n10_ n11_; clear hb hbox hg; obtain ⟨Ao61, co61, eo61⟩ := Kd.R_slice HO249.out; subst eo61; have hnb62 := NB254_221.out; have hnc62 := NB221_254.out; have hcz63_0 : w60.cell? ⟨gb254, 0, none⟩ = some (.slice none 0 0) := (blk_cell BK254.out 0).trans rfl; have hcz63_1 : w60.cell? ⟨gb254, 1, none⟩ = some (.slice none 0 0) := (blk_cell BK254.out 1).trans rfl; have hfz63_0 := blk_frozen BK254.out 0; have hfz63_1 := blk_frozen BK254.out 1; obtain ⟨Ao64, co64, eo64⟩ := Kd.R_slice HO252.out; subst eo64; have hcz65_0 : w60.cell? ⟨gb221, 0, none⟩ = some (.slice Ao14 t215.length co14) := (blk_cell BK221.out 0).trans rfl; have hcz65_1 : w60.cell? ⟨gb221, 1, none⟩ = some (.slice Ao16 t218.length co16) := (blk_cell BK221.out 1).trans rfl; have hfz65_0 := blk_frozen BK221.out 0; have hfz65_1 := blk_frozen BK221.out 1) | ((with_reducible refine gate_callee (f := 32) rfl ?_); refine goesL_ (some 70) rfl rfl Try.func32 (by kernel_rfl) rfl #[.agg #[.slice Ao14 t215.length co14, .slice Ao16 t218.length co16]] rfl (by (try simp only [List.map_toArray, List.map_cons, List.map_nil]); first | done | rfl | (simp only [List.length_drop, List.length_take]; rfl)) ?_; (with_reducible refine (synodalref8_Leave.calls _ _ t215 _ _ t218 t255 t258 t261 _ ?side1 ?side2 ?side3 ?side4 A55.out).mono ?_); (case side1 => refine (Kd.R_reads' (e := 3) (base := w.heap.size) (ok := fun k_ => ((((w.heap.size ≤ k_) ∧ some k_ ≠ (.slice Ao16 t218.length co16 : Value).ownBlock) ∧ some k_ ≠ (.slice Ao61 t247.length co61 : Value).ownBlock) ∧ some k_ ≠ (.slice Ao64 t250.length co64 : Value).ownBlock)) (n := t215.length) (c := co14) ?_).2.2; exact (by (with_reducible repeat (first | apply Kd.R_alloc | apply Kd.R_drewN | apply Kd.R_drew)); exact (Kd.R_mono (Kd.R_far (p := ⟨gb254, 1, none⟩) (Kd.R_far (p := ⟨gb254, 0, none⟩) (Kd.R_types HO_222000.out BK254.out (by decide)) (fun _ hk => hk.2) (.slice Ao61 t247.length co61)) (fun _ hk => hk.2) (.slice Ao64 t250.length co64)) (fun _ h_ => h_.1)))); (case side2 => exact (Kd.R_reads' HO_222000.out).2.1); (case side3 => refine (Kd.R_reads' (e := 3) (base := w.heap.size) (ok := fun k_ => ((((w.heap.size ≤ k_) ∧ some k_ ≠ (.slice Ao14 t215.length co14 : Value).ownBlock) ∧ some k_ ≠ (.slice Ao61 t247.length co61 : Value).ownBlock) ∧ some k_ ≠ (.slice Ao64 t250.length co64 : Value).ownBlock)) (n := t218.length) (c := co16) ?_).2.2; exact (by (with_reducible repeat (first | apply Kd.R_alloc | apply Kd.R_drewN | apply Kd.R_drew)); exact (Kd.R_mono (Kd.R_far (p := ⟨gb254, 1, none⟩) (Kd.R_far (p := ⟨gb254, 0, none⟩) (Kd.R_types HO_222001.out BK254.out (by decide)) (fun _ hk => hk.2) (.slice Ao61 t247.length co61)) (fun _ hk => hk.2) (.slice Ao64 t250.length co64)) (fun _ h_ => h_.1)))); (case side4 => exact (Kd.R_reads' HO_222001.out).2.1); rintro e w66 ⟨v256, v259, rfl, ho0, ho1, hb⟩; refine ⟨_, rfl, ?_⟩; have n0_ := Aside0.mk (Kd.N_mono (Kd.N_told (Kd.N_told (Kd.N_old (by (with_reducible repeat (first | apply Kd.N_alloc | apply Kd.N_drewN | apply Kd.N_drew)); exact (Kd.N_mono (Kd.N_far (p := ⟨gb254, 1, none⟩) (Kd.N_far (p := ⟨gb254, 0, none⟩) (Kd.N_mono HO_10.out (fun k_ hk => (⟨hk, hk.2⟩ : _ ∧ k_ ≠ gb254))) (fun _ hk => hk.2) (.slice Ao61 t247.length co61)) (fun _ hk => hk.2) (.slice Ao64 t250.length co64)) (fun _ h_ => h_.1))) hb) (Kd.R_base ho0)) (Kd.R_base ho1)) (fun _ h_ => h_.1)); have n1_ := Aside0.mk (Kd.R_mono (Kd.R_told (Kd.R_told (Kd.R_old (by (with_reducible repeat (first | apply Kd.R_alloc | apply Kd.R_drewN | apply Kd.R_drew)); exact (Kd.R_mono (Kd.R_far (p := ⟨gb254, 1, none⟩) (Kd.R_far (p := ⟨gb254, 0, none⟩) (Kd.R_types HO_222000.out BK254.out (by decide)) (fun _ hk => hk.2) (.slice Ao61 t247.length co61)) (fun _ hk => hk.2) (.slice Ao64 t250.length co64)) (fun _ h_ => h_.1))) hb) (Kd.R_base ho0)) (Kd.R_base ho1)) (fun _ h_ => h_.1)); have n2_ := Aside0.mk (Kd.R_mono (Kd.R_told (Kd.R_told (Kd.R_old (by (with_reducible repeat (first | apply Kd.R_alloc | apply Kd.R_drewN | apply Kd.R_drew)); exact (Kd.R_mono (Kd.R_far (p := ⟨gb254, 1, none⟩) (Kd.R_far (p := ⟨gb254, 0, none⟩) (Kd.R_types HO_222001.out BK254.out (by decide)) (fun _ hk => hk.2) (.slice Ao61 t247.length co61)) (fun _ hk => hk.2) (.slice Ao64 t250.length co64)) (fun _ h_ => h_.1))) hb) (Kd.R_base ho0)) (Kd.R_base ho1)) (fun _ h_ => h_.1)); have n3_ := Aside0.mk (Kd.R_mono (Kd.R_told (Kd.R_told (Kd.R_old (by (with_reducible repeat (first | apply Kd.R_alloc | apply Kd.R_drewN | apply Kd.R_drew)); exact (Kd.R_mono (Kd.R_far (p := ⟨gb254, 1, none⟩) (Kd.R_far (p := ⟨gb254, 0, none⟩) (Kd.R_types HO249.out BK254.out (by decide)) (fun _ hk => hk.2) (.slice Ao61 t247.length co61)) (fun _ hk => hk.2) (.slice Ao64 t250.length co64)) (fun _ h_ => h_.1))) hb) (Kd.R_base ho0)) (Kd.R_base ho1)) (fun _ h_ => h_.1)); have n4_ := Aside0.mk (Kd.R_mono (Kd.R_told (Kd.R_told (Kd.R_old (by (with_reducible repeat (first | apply Kd.R_alloc | apply Kd.R_drewN | apply Kd.R_drew)); exact (Kd.R_mono (Kd.R_far (p := ⟨gb254, 1, none⟩) (Kd.R_far (p := ⟨gb254, 0, none⟩) (Kd.R_types HO252.out BK254.out (by decide)) (fun _ hk => hk.2) (.slice Ao61 t247.length co61)) (fun _ hk => hk.2) (.slice Ao64 t250.length co64)) (fun _ h_ => h_.1))) hb) (Kd.R_base ho0)) (Kd.R_base ho1)) (fun _ h_ => h_.1)); have n5_ := Aside0.mk (Kd.R_lower (Kd.R_new' (Kd.R_new' (Kd.R_new' (Kd.R_new' (Kd.R_newM (M := fun k_ => (w.heap.size ≤ k_)) ho0 (below_size (by repeat (first | (with_reducible first | exact HB.out | apply below_alloc | apply pw_below_drewN | apply below_drew1 | refine below_set ?_ GE221.out | refine below_set ?_ GE254.out) | exact HB.out))) (fun k_ h_ => h_)) (Kd.R_lt (by (with_reducible repeat (first | apply Kd.R_alloc | apply Kd.R_drewN | apply Kd.R_drew)); exact (Kd.R_mono (Kd.R_far (p := ⟨gb254, 1, none⟩) (Kd.R_far (p := ⟨gb254, 0, none⟩) (Kd.R_types HO_222000.out BK254.out (by decide)) (fun _ hk => hk.2) (.slice Ao61 t247.length co61)) (fun _ hk => hk.2) (.slice Ao64 t250.length co64)) (fun _ h_ => h_.1))))) (Kd.R_lt (by (with_reducible repeat (first | apply Kd.R_alloc | apply Kd.R_drewN | apply Kd.R_drew)); exact (Kd.R_mono (Kd.R_far (p := ⟨gb254, 1, none⟩) (Kd.R_far (p := ⟨gb254, 0, none⟩) (Kd.R_types HO_222001.out BK254.out (by decide)) (fun _ hk => hk.2) (.slice Ao61 t247.length co61)) (fun _ hk => hk.2) (.slice Ao64 t250.length co64)) (fun _ h_ => h_.1))))) (Kd.R_lt (by (with_reducible repeat (first | apply Kd.R_alloc | apply Kd.R_drewN | apply Kd.R_drew)); exact (Kd.R_mono (Kd.R_far (p := ⟨gb254, 1, none⟩) (Kd.R_far (p := ⟨gb254, 0, none⟩) (Kd.R_types HO249.out BK254.out (by decide)) (fun _ hk => hk.2) (.slice Ao61 t247.length co61)) (fun _ hk => hk.2) (.slice Ao64 t250.length co64)) (fun _ h_ => h_.1))))) (Kd.R_lt (by (with_reducible repeat (first | apply Kd.R_alloc | apply Kd.R_drewN | apply Kd.R_drew)); exact (Kd.R_mono (Kd.R_far (p := ⟨gb254, 1, none⟩) (Kd.R_far (p := ⟨gb254, 0, none⟩) (Kd.R_types HO252.out BK254.out (by decide)) (fun _ hk => hk.2) (.slice Ao61 t247.length co61)) (fun _ hk => hk.2) (.slice Ao64 t250.length co64)) (fun _ h_ => h_.1))))) (below_size (by repeat (first | (with_reducible first | exact HB.out | apply below_alloc | apply pw_below_drewN | apply below_drew1 | refine below_set ?_ GE221.out | refine below_set ?_ GE254.out) | exact HB.out)))); have n6_ := Aside0.mk (Kd.R_lower (Kd.R_new' (Kd.R_new' (Kd.R_new' (Kd.R_new' (Kd.R_newM (M := fun k_ => (w.heap.size ≤ k_)) ho1 (below_size (by repeat (first | (with_reducible first | exact HB.out | apply below_alloc | apply pw_below_drewN | apply below_drew1 | refine below_set ?_ GE221.out | refine below_set ?_ GE254.out) | exact HB.out))) (fun k_ h_ => h_)) (Kd.R_lt (by (with_reducible repeat (first | apply Kd.R_alloc | apply Kd.R_drewN | apply Kd.R_drew)); exact (Kd.R_mono (Kd.R_far (p := ⟨gb254, 1, none⟩) (Kd.R_far (p := ⟨gb254, 0, none⟩) (Kd.R_types HO_222000.out BK254.out (by decide)) (fun _ hk => hk.2) (.slice Ao61 t247.length co61)) (fun _ hk => hk.2) (.slice Ao64 t250.length co64)) (fun _ h_ => h_.1))))) (Kd.R_lt (by (with_reducible repeat (first | apply Kd.R_alloc | apply Kd.R_drewN | apply Kd.R_drew)); exact (Kd.R_mono (Kd.R_far (p := ⟨gb254, 1, none⟩) (Kd.R_far (p := ⟨gb254, 0, none⟩) (Kd.R_types HO_222001.out BK254.out (by decide)) (fun _ hk => hk.2) (.slice Ao61 t247.length co61)) (fun _ hk => hk.2) (.slice Ao64 t250.length co64)) (fun _ h_ => h_.1))))) (Kd.R_lt (by (with_reducible repeat (first | apply Kd.R_alloc | apply Kd.R_drewN | apply Kd.R_drew)); exact (Kd.R_mono (Kd.R_far (p := ⟨gb254, 1, none⟩) (Kd.R_far (p := ⟨gb254, 0, none⟩) (Kd.R_types HO249.out BK254.out (by decide)) (fun _ hk => hk.2) (.slice Ao61 t247.length co61)) (fun _ hk => hk.2) (.slice Ao64 t250.length co64)) (fun _ h_ => h_.1))))) (Kd.R_lt (by (with_reducible repeat (first | apply Kd.R_alloc | apply Kd.R_drewN | apply Kd.R_drew)); exact (Kd.R_mono (Kd.R_far (p := ⟨gb254, 1, none⟩) (Kd.R_far (p := ⟨gb254, 0, none⟩) (Kd.R_types HO252.out BK254.out (by decide)) (fun _ hk => hk.2) (.slice Ao61 t247.length co61)) (fun _ hk => hk.2) (.slice Ao64 t250.length co64)) (fun _ h_ => h_.1))))) (below_size (by repeat (first | (with_reducible first | exact HB.out | apply below_alloc | apply pw_below_drewN | apply below_drew1 | refine below_set ?_ GE221.out | refine below_set ?_ GE254.out) | exact HB.out)))); have n7_ := Aside0.mk (blk_below (g := gb221) (o := .cells #[.slice Ao14 t215.length co14, .slice Ao16 t218.length co16] 42 (0, 0)) (by (with_reducible repeat (first | refine blk_drewN ?_ _ | refine blk_drew ?_ | refine blk_alloc ?_ _)); refine blk_far ?_ NB221_254.out _; (with_reducible repeat (first | refine blk_drewN ?_ _ | refine blk_drew ?_ | refine blk_alloc ?_ _)); refine blk_far ?_ NB221_254.out _; (with_reducible repeat (first | refine blk_drewN ?_ _ | refine blk_drew ?_ | refine blk_alloc ?_ _)); exact BK221.out) hb); have n8_ := Aside0.mk (blk_below (g := gb254) (o := .cells #[.slice Ao61 t247.length co61, .slice Ao64 t250.length co64] 42 (0, 0)) (by (with_reducible repeat (first | refine blk_drewN ?_ _ | refine blk_drew ?_ | refine blk_alloc ?_ _)); refine blk_put (cs := #[.slice Ao61 t247.length co61, .slice none 0 0]) ?_ 1 _ rfl; (with_reducible repeat (first | refine blk_drewN ?_ _ | refine blk_drew ?_ | refine blk_alloc ?_ _)); refine blk_put (cs := #[.slice none 0 0, .slice none 0 0]) ?_ 0 _ rfl; (with_reducible repeat (first | refine blk_drewN ?_ _ | refine blk_drew ?_ | refine blk_alloc ?_ _)); exact BK254.out) hb); have n9_ := Aside0.mk (below_step (by repeat (first | (with_reducible first | exact HB.out | apply below_alloc | apply pw_below_drewN | apply below_drew1 | refine below_set ?_ GE221.out | refine below_set ?_ GE254.out) | exact HB.out)) hb); clear HO_10; clear HO_222000; clear HO_222001; clear HO249; clear HO252; clear BK221; clear BK254; clear HB; have HO_10 := n0_; have HO_222000 := n1_; have HO_222001 := n2_; have HO249 := n3_; have HO252 := n4_; have HO257 := n5_; have HO260 := n6_; have BK221 := n7_; have BK254 := n8_; have HB := n9_; clear n0_ n1_ n2_ n3_ n4_ n5_ n6_ n7_ n8_ n9_; (try clear hb); (try clear hb2); (try clear hk); (try clear hi); (try clear ho0); (try clear ho1)) | ((with_reducible refine gate_dst (N := 18) rfl ?_); refine box_event ?hg (N := 18) ?hd (cs := #[.slice none 0 0, .slice none 0 0]) (t := 42) ?hr ?_; (case hd => rfl); (case hg => rfl); (case hr => first | (go_simp; done) | (go_simp; rfl)); intro gb262 hg w67 hbox hb; have n0_ := Aside0.mk (Kd.N_below (Kd.N_elderB (by (with_reducible repeat (first | apply Kd.N_alloc | apply Kd.N_drewN | apply Kd.N_drew)); exact HO_10.out) gb262 (Nat.le_of_eq hg.symm)) hb); have n1_ := Aside0.mk (Kd.R_below (by (with_reducible repeat (first | apply Kd.R_alloc | apply Kd.R_drewN | apply Kd.R_drew)); exact HO_222000.out) hb); have n2_ := Aside0.mk (Kd.R_below (by (with_reducible repeat (first | apply Kd.R_alloc | apply Kd.R_drewN | apply Kd.R_drew)); exact HO_222001.out) hb); have n3_ := Aside0.mk (Kd.R_below (by (with_reducible repeat (first | apply Kd.R_alloc | apply Kd.R_drewN | apply Kd.R_drew)); exact HO249.out) hb); have n4_ := Aside0.mk (Kd.R_below (by (with_reducible repeat (first | apply Kd.R_alloc | apply Kd.R_drewN | apply Kd.R_drew)); exact HO252.out) hb); have n5_ := Aside0.mk (Kd.R_below (by (with_reducible repeat (first | apply Kd.R_alloc | apply Kd.R_drewN | apply Kd.R_drew)); exact HO257.out) hb); have n6_ := Aside0.mk (Kd.R_below (by (with_reducible repeat (first | apply Kd.R_alloc | apply Kd.R_drewN | apply Kd.R_drew)); exact HO260.out) hb); have n7_ := Aside0.mk (blk_below (g := gb221) (o := .cells #[.slice Ao14 t215.length co14, .slice Ao16 t218.length co16] 42 (0, 0)) (by (with_reducible repeat (first | refine blk_drewN ?_ _ | refine blk_drew ?_ | refine blk_alloc ?_ _)); exact BK221.out) hb); have n8_ := Aside0.mk (blk_below (g := gb254) (o := .cells #[.slice Ao61 t247.length co61, .slice Ao64 t250.length co64] 42 (0, 0)) (by (with_reducible repeat (first | refine blk_drewN ?_ _ | refine blk_drew ?_ | refine blk_alloc ?_ _)); exact BK254.out) hb); have n9_ := Aside0.mk (below_step (by repeat (first | (with_reducible first | exact HB.out | apply below_alloc | apply pw_below_drewN | apply below_drew1 | refine below_set ?_ GE221.out | refine below_set ?_ GE254.out) | exact HB.out)) hb); have n10_ := Aside0.mk (hbox); have n11_ := Aside0.mk ((by rw [hg]; exact (below_size (by repeat (first | (with_reducible first | exact HB.out | apply below_alloc | apply pw_below_drewN | apply below_drew1 | refine below_set ?_ GE221.out | refine below_set ?_ GE254.out) | exact HB.out))) : w.heap.size ≤ gb262)); have n12_ := Aside0.mk ((by rw [hg]; exact (below_size (by repeat (first | (with_reducible first | exact HB.out | apply below_alloc | apply pw_below_drewN | apply below_drew1 | refine below_set ?_ GE221.out | refine below_set ?_ GE254.out) | exact HB.out))) : w.heap.size ≤ gb262)); have n13_ := Aside0.mk ((by rw [hg]; exact Nat.ne_of_lt (blk_lt (g := gb221) (o := .cells #[.slice Ao14 t215.length co14, .slice Ao16 t218.length co16] 42 (0, 0)) (by (with_reducible repeat (first | refine blk_drewN ?_ _ | refine blk_drew ?_ | refine blk_alloc ?_ _)); exact BK221.out)) : gb221 ≠ gb262)); have n14_ := Aside0.mk ((by rw [hg]; exact Nat.ne_of_gt (blk_lt (g := gb221) (o := .cells #[.slice Ao14 t215.length co14, .slice Ao16 t218.length co16] 42 (0, 0)) (by (with_reducible repeat (first | refine blk_drewN ?_ _ | refine blk_drew ?_ | refine blk_alloc ?_ _)); exact BK221.out)) : gb262 ≠ gb221)); have n15_ := Aside0.mk ((by rw [hg]; exact Nat.ne_of_lt (blk_lt (g := gb254) (o := .cells #[.slice Ao61 t247.length co61, .slice Ao64 t250.length co64] 42 (0, 0)) (by (with_reducible repeat (first | refine blk_drewN ?_ _ | refine blk_drew ?_ | refine blk_alloc ?_ _)); exact BK254.out)) : gb254 ≠ gb262)); have n16_ := Aside0.mk ((by rw [hg]; exact Nat.ne_of_gt (blk_lt (g := gb254) (o := .cells #[.slice Ao61 t247.length co61, .slice Ao64 t250.length co64] 42 (0, 0)) (by (with_reducible repeat (first | refine blk_drewN ?_ _ | refine blk_drew ?_ | refine blk_alloc ?_ _)); exact BK254.out)) : gb262 ≠ gb254)); clear HO_10; clear HO_222000; clear HO_222001; clear HO249; clear HO252; clear HO257; clear HO260; clear BK221; clear BK254; clear HB; have HO_10 := n0_; have HO_222000 := n1_; have HO_222001 := n2_; have HO249 := n3_; have HO252 := n4_; have HO257 := n5_; have HO260 := n6_; have BK221 := n7_; have BK254 := n8_; have HB := n9_; have BK262 := n10_; have GW262 := n11_; have GE262 := n12_; have NB221_262 := n13_; have NB262_221 := n14_; have NB254_262 := n15_; have NB262_254 := n16_; clear n0_ n1_ n2_ n3_ n4_ n5_ n6_ n7_ n8_ n9_ n10_ n11_ n12_ n13_ n14_ n15_ n16_; clear hb hbox hg; obtain ⟨Ao68, co68, eo68⟩ := Kd.R_slice HO257.out; subst eo68; have hnb69 := NB262_221.out; have hnc69 := NB221_262.out; have hnb70 := NB262_254.out; have hnc70 := NB254_262.out; have hcz71_0 : w67.cell? ⟨gb262, 0, none⟩ = some (.slice none 0 0) := (blk_cell BK262.out 0).trans rfl; have hcz71_1 : w67.cell? ⟨gb262, 1, none⟩ = some (.slice none 0 0) := (blk_cell BK262.out 1).trans rfl; have hfz71_0 := blk_frozen BK262.out 0; have hfz71_1 := blk_frozen BK262.out 1; obtain ⟨Ao72, co72, eo72⟩ := Kd.R_slice HO260.out; subst eo72; have hcz73_0 : w67.cell? ⟨gb254, 0, none⟩ = some (.slice Ao61 t247.length co61) := (blk_cell BK254.out 0).trans rfl; have hcz73_1 : w67.cell? ⟨gb254, 1, none⟩ = some (.slice Ao64 t250.length co64) := (blk_cell BK254.out 1).trans rfl; have hfz73_0 := blk_frozen BK254.out 0; have hfz73_1 := blk_frozen BK254.out 1) | (go_at_call 30; (with_reducible refine (synodalref8_Same.calls k1 _ _ t247 _ _ t250 _ _ t255 _ _ t258 t263 _ ?side1 ?side2 ?side3 ?side4 ?side5 ?side6 ?side7 ?side8 A57.out).mono ?_); (case side1 => refine (Kd.R_reads' (e := 3) (base := w.heap.size) (ok := fun k_ => ((((((w.heap.size ≤ k_) ∧ some k_ ≠ (.slice Ao64 t250.length co64 : Value).ownBlock) ∧ some k_ ≠ (.slice Ao14 t215.length co14 : Value).ownBlock) ∧ some k_ ≠ (.slice Ao16 t218.length co16 : Value).ownBlock) ∧ some k_ ≠ (.slice Ao68 t255.length co68 : Value).ownBlock) ∧ some k_ ≠ (.slice Ao72 t258.length co72 : Value).ownBlock)) (n := t247.length) (c := co61) ?_).2.2; exact (by (with_reducible repeat (first | apply Kd.R_alloc | apply Kd.R_drewN | apply Kd.R_drew)); exact (Kd.R_mono (Kd.R_far (p := ⟨gb262, 1, none⟩) (Kd.R_far (p := ⟨gb262, 0, none⟩) (Kd.R_types HO249.out BK262.out (by decide)) (fun _ hk => hk.2) (.slice Ao68 t255.length co68)) (fun _ hk => hk.2) (.slice Ao72 t258.length co72)) (fun _ h_ => h_.1)))); (case side2 => exact (Kd.R_reads' HO249.out).2.1); (case side3 => refine (Kd.R_reads' (e := 3) (base := w.heap.size) (ok := fun k_ => ((((((w.heap.size ≤ k_) ∧ some k_ ≠ (.slice Ao61 t247.length co61 : Value).ownBlock) ∧ some k_ ≠ (.slice Ao14 t215.length co14 : Value).ownBlock) ∧ some k_ ≠ (.slice Ao16 t218.length co16 : Value).ownBlock) ∧ some k_ ≠ (.slice Ao68 t255.length co68 : Value).ownBlock) ∧ some k_ ≠ (.slice Ao72 t258.length co72 : Value).ownBlock)) (n := t250.length) (c := co64) ?_).2.2; exact (by (with_reducible repeat (first | apply Kd.R_alloc | apply Kd.R_drewN | apply Kd.R_drew)); exact (Kd.R_mono (Kd.R_far (p := ⟨gb262, 1, none⟩) (Kd.R_far (p := ⟨gb262, 0, none⟩) (Kd.R_types HO252.out BK262.out (by decide)) (fun _ hk => hk.2) (.slice Ao68 t255.length co68)) (fun _ hk => hk.2) (.slice Ao72 t258.length co72)) (fun _ h_ => h_.1)))); (case side4 => exact (Kd.R_reads' HO252.out).2.1); (case side5 => refine (Kd.R_reads' (e := 3) (base := w.heap.size) (ok := fun k_ => ((((((w.heap.size ≤ k_) ∧ some k_ ≠ (.slice Ao72 t258.length co72 : Value).ownBlock) ∧ some k_ ≠ (.slice Ao14 t215.length co14 : Value).ownBlock) ∧ some k_ ≠ (.slice Ao16 t218.length co16 : Value).ownBlock) ∧ some k_ ≠ (.slice Ao61 t247.length co61 : Value).ownBlock) ∧ some k_ ≠ (.slice Ao64 t250.length co64 : Value).ownBlock)) (n := t255.length) (c := co68) ?_).2.2; exact (by (with_reducible repeat (first | apply Kd.R_alloc | apply Kd.R_drewN | apply Kd.R_drew)); exact (Kd.R_mono (Kd.R_far (p := ⟨gb262, 1, none⟩) (Kd.R_far (p := ⟨gb262, 0, none⟩) (Kd.R_types HO257.out BK262.out (by decide)) (fun _ hk => hk.2) (.slice Ao68 t255.length co68)) (fun _ hk => hk.2) (.slice Ao72 t258.length co72)) (fun _ h_ => h_.1)))); (case side6 => exact (Kd.R_reads' HO257.out).2.1); (case side7 => refine (Kd.R_reads' (e := 3) (base := w.heap.size) (ok := fun k_ => ((((((w.heap.size ≤ k_) ∧ some k_ ≠ (.slice Ao68 t255.length co68 : Value).ownBlock) ∧ some k_ ≠ (.slice Ao14 t215.length co14 : Value).ownBlock) ∧ some k_ ≠ (.slice Ao16 t218.length co16 : Value).ownBlock) ∧ some k_ ≠ (.slice Ao61 t247.length co61 : Value).ownBlock) ∧ some k_ ≠ (.slice Ao64 t250.length co64 : Value).ownBlock)) (n := t258.length) (c := co72) ?_).2.2; exact (by (with_reducible repeat (first | apply Kd.R_alloc | apply Kd.R_drewN | apply Kd.R_drew)); exact (Kd.R_mono (Kd.R_far (p := ⟨gb262, 1, none⟩) (Kd.R_far (p := ⟨gb262, 0, none⟩) (Kd.R_types HO260.out BK262.out (by decide)) (fun _ hk => hk.2) (.slice Ao68 t255.length co68)) (fun _ hk => hk.2) (.slice Ao72 t258.length co72)) (fun _ h_ => h_.1)))); (case side8 => exact (Kd.R_reads' HO260.out).2.1); rintro e w74 ⟨rfl, hb⟩; have n0_ := Aside0.mk (Kd.N_below (by (with_reducible repeat (first | apply Kd.N_alloc | apply Kd.N_drewN | apply Kd.N_drew)); exact (Kd.N_mono (Kd.N_far (p := ⟨gb262, 1, none⟩) (Kd.N_far (p := ⟨gb262, 0, none⟩) (Kd.N_mono HO_10.out (fun k_ hk => (⟨hk, hk.2⟩ : _ ∧ k_ ≠ gb262))) (fun _ hk => hk.2) (.slice Ao68 t255.length co68)) (fun _ hk => hk.2) (.slice Ao72 t258.length co72)) (fun _ h_ => h_.1))) hb); have n1_ := Aside0.mk (Kd.R_below (by (with_reducible repeat (first | apply Kd.R_alloc | apply Kd.R_drewN | apply Kd.R_drew)); exact (Kd.R_mono (Kd.R_far (p := ⟨gb262, 1, none⟩) (Kd.R_far (p := ⟨gb262, 0, none⟩) (Kd.R_types HO_222000.out BK262.out (by decide)) (fun _ hk => hk.2) (.slice Ao68 t255.length co68)) (fun _ hk => hk.2) (.slice Ao72 t258.length co72)) (fun _ h_ => h_.1))) hb); have n2_ := Aside0.mk (Kd.R_below (by (with_reducible repeat (first | apply Kd.R_alloc | apply Kd.R_drewN | apply Kd.R_drew)); exact (Kd.R_mono (Kd.R_far (p := ⟨gb262, 1, none⟩) (Kd.R_far (p := ⟨gb262, 0, none⟩) (Kd.R_types HO_222001.out BK262.out (by decide)) (fun _ hk => hk.2) (.slice Ao68 t255.length co68)) (fun _ hk => hk.2) (.slice Ao72 t258.length co72)) (fun _ h_ => h_.1))) hb); have n3_ := Aside0.mk (Kd.R_below (by (with_reducible repeat (first | apply Kd.R_alloc | apply Kd.R_drewN | apply Kd.R_drew)); exact (Kd.R_mono (Kd.R_far (p := ⟨gb262, 1, none⟩) (Kd.R_far (p := ⟨gb262, 0, none⟩) (Kd.R_types HO249.out BK262.out (by decide)) (fun _ hk => hk.2) (.slice Ao68 t255.length co68)) (fun _ hk => hk.2) (.slice Ao72 t258.length co72)) (fun _ h_ => h_.1))) hb); have n4_ := Aside0.mk (Kd.R_below (by (with_reducible repeat (first | apply Kd.R_alloc | apply Kd.R_drewN | apply Kd.R_drew)); exact (Kd.R_mono (Kd.R_far (p := ⟨gb262, 1, none⟩) (Kd.R_far (p := ⟨gb262, 0, none⟩) (Kd.R_types HO252.out BK262.out (by decide)) (fun _ hk => hk.2) (.slice Ao68 t255.length co68)) (fun _ hk => hk.2) (.slice Ao72 t258.length co72)) (fun _ h_ => h_.1))) hb); have n5_ := Aside0.mk (Kd.R_below (by (with_reducible repeat (first | apply Kd.R_alloc | apply Kd.R_drewN | apply Kd.R_drew)); exact (Kd.R_mono (Kd.R_far (p := ⟨gb262, 1, none⟩) (Kd.R_far (p := ⟨gb262, 0, none⟩) (Kd.R_types HO257.out BK262.out (by decide)) (fun _ hk => hk.2) (.slice Ao68 t255.length co68)) (fun _ hk => hk.2) (.slice Ao72 t258.length co72)) (fun _ h_ => h_.1))) hb); have n6_ := Aside0.mk (Kd.R_below (by (with_reducible repeat (first | apply Kd.R_alloc | apply Kd.R_drewN | apply Kd.R_drew)); exact (Kd.R_mono (Kd.R_far (p := ⟨gb262, 1, none⟩) (Kd.R_far (p := ⟨gb262, 0, none⟩) (Kd.R_types HO260.out BK262.out (by decide)) (fun _ hk => hk.2) (.slice Ao68 t255.length co68)) (fun _ hk => hk.2) (.slice Ao72 t258.length co72)) (fun _ h_ => h_.1))) hb); have n7_ := Aside0.mk (blk_below (g := gb221) (o := .cells #[.slice Ao14 t215.length co14, .slice Ao16 t218.length co16] 42 (0, 0)) (by (with_reducible repeat (first | refine blk_drewN ?_ _ | refine blk_drew ?_ | refine blk_alloc ?_ _)); refine blk_far ?_ NB221_262.out _; (with_reducible repeat (first | refine blk_drewN ?_ _ | refine blk_drew ?_ | refine blk_alloc ?_ _)); refine blk_far ?_ NB221_262.out _; (with_reducible repeat (first | refine blk_drewN ?_ _ | refine blk_drew ?_ | refine blk_alloc ?_ _)); exact BK221.out) hb); have n8_ := Aside0.mk (blk_below (g := gb254) (o := .cells #[.slice Ao61 t247.length co61, .slice Ao64 t250.length co64] 42 (0, 0)) (by (with_reducible repeat (first | refine blk_drewN ?_ _ | refine blk_drew ?_ | refine blk_alloc ?_ _)); refine blk_far ?_ NB254_262.out _; (with_reducible repeat (first | refine blk_drewN ?_ _ | refine blk_drew ?_ | refine blk_alloc ?_ _)); refine blk_far ?_ NB254_262.out _; (with_reducible repeat (first | refine blk_drewN ?_ _ | refine blk_drew ?_ | refine blk_alloc ?_ _)); exact BK254.out) hb); have n9_ := Aside0.mk (blk_below (g := gb262) (o := .cells #[.slice Ao68 t255.length co68, .slice Ao72 t258.length co72] 42 (0, 0)) (by (with_reducible repeat (first | refine blk_drewN ?_ _ | refine blk_drew ?_ | refine blk_alloc ?_ _)); refine blk_put (cs := #[.slice Ao68 t255.length co68, .slice none 0 0]) ?_ 1 _ rfl; (with_reducible repeat (first | refine blk_drewN ?_ _ | refine blk_drew ?_ | refine blk_alloc ?_ _)); refine blk_put (cs := #[.slice none 0 0, .slice none 0 0]) ?_ 0 _ rfl; (with_reducible repeat (first | refine blk_drewN ?_ _ | refine blk_drew ?_ | refine blk_alloc ?_ _)); exact BK262.out) hb); have n10_ := Aside0.mk (below_step (by repeat (first | (with_reducible first | exact HB.out | apply below_alloc | apply pw_below_drewN | apply below_drew1 | refine below_set ?_ GE221.out | refine below_set ?_ GE254.out | refine below_set ?_ GE262.out) | exact HB.out)) hb); clear HO_10; clear HO_222000; clear HO_222001; clear HO249; clear HO252; clear HO257; clear HO260; clear BK221; clear BK254; clear BK262; clear HB; have HO_10 := n0_; have HO_222000 := n1_; have HO_222001 := n2_; have HO249 := n3_; have HO252 := n4_; have HO257 := n5_; have HO260 := n6_; have BK221 := n7_; have BK254 := n8_; have BK262 := n9_; have HB := n10_; clear n0_ n1_ n2_ n3_ n4_ n5_ n6_ n7_ n8_ n9_ n10_; (try clear hb); (try clear hb2); (try clear hk); (try clear hi)))
              go_ret
              exact ⟨by first | rfl | (simp [errW_none, errW_some] <;> rfl) | (simp [*, errW_none, errW_some] <;> rfl), by repeat (first | (with_reducible first | exact HB.out | apply below_alloc | apply pw_below_drewN | apply below_drew1 | refine below_set ?_ GE221.out | refine below_set ?_ GE254.out | refine below_set ?_ GE262.out) | exact HB.out)⟩
            · rw [if_neg c56] at H
              have c56b0 : (t253 == t261) = false := beq_eq_false_iff_ne.mpr c56
              have c56b1 : (t253 != t261) = true := bne_iff_ne.mpr c56
              obtain rfl := Option.some.inj H
              have hcz75_0 : wr.cell? ⟨gb221, 0, none⟩ = some (.slice Ao14 t215.length co14) := (blk_cell BK221.out 0).trans rfl
              have hcz75_1 : wr.cell? ⟨gb221, 1, none⟩ = some (.slice Ao16 t218.length co16) := (blk_cell BK221.out 1).trans rfl
              have hfz75_0 := blk_frozen BK221.out 0
              have hfz75_1 := blk_frozen BK221.out 1
              go_wp2_with (first | ((with_reducible refine gate_callee (f := 31) rfl ?_); refine goesL_ (some 65) rfl rfl Try.func31 (by kernel_rfl) rfl #[.agg #[.slice Ao14 t215.length co14, .slice Ao16 t218.length co16]] rfl (by (try simp only [List.map_toArray, List.map_cons, List.map_nil]); first | done | rfl | (simp only [List.length_drop, List.length_take]; rfl)) ?_; (with_reducible refine (conf_Leave.calls _ _ t215 _ _ t218 t247 t250 t253 _ ?side1 ?side2 ?side3 ?side4 A54.out).mono ?_); (case side1 => repeat (first | exact (Kd.R_reads' HO_222000.out).2.2 | (with_reducible refine Kd.C_alloc ?_ _) | (with_reducible refine Kd.C_drewN ?_ _) | (with_reducible refine Kd.C_drew ?_))); (case side2 => exact (Kd.R_reads' HO_222000.out).2.1); (case side3 => repeat (first | exact (Kd.R_reads' HO_222001.out).2.2 | (with_reducible refine Kd.C_alloc ?_ _) | (with_reducible refine Kd.C_drewN ?_ _) | (with_reducible refine Kd.C_drew ?_))); (case side4 => exact (Kd.R_reads' HO_222001.out).2.1); rintro e w76 ⟨v248, v251, rfl, ho0, ho1, hb⟩; refine ⟨_, rfl, ?_⟩; have n0_ := Aside0.mk (Kd.N_mono (Kd.N_told (Kd.N_told (Kd.N_old (by (with_reducible repeat (first | apply Kd.N_alloc | apply Kd.N_drewN | apply Kd.N_drew)); exact HO_10.out) hb) (Kd.R_base ho0)) (Kd.R_base ho1)) (fun _ h_ => h_.1)); have n1_ := Aside0.mk (Kd.R_mono (Kd.R_told (Kd.R_told (Kd.R_old (by (with_reducible repeat (first | apply Kd.R_alloc | apply Kd.R_drewN | apply Kd.R_drew)); exact HO_222000.out) hb) (Kd.R_base ho0)) (Kd.R_base ho1)) (fun _ h_ => h_.1)); have n2_ := Aside0.mk (Kd.R_mono (Kd.R_told (Kd.R_told (Kd.R_old (by (with_reducible repeat (first | apply Kd.R_alloc | apply Kd.R_drewN | apply Kd.R_drew)); exact HO_222001.out) hb) (Kd.R_base ho0)) (Kd.R_base ho1)) (fun _ h_ => h_.1)); have n3_ := Aside0.mk (Kd.R_lower (Kd.R_new' (Kd.R_new' (Kd.R_newM (M := fun k_ => (w.heap.size ≤ k_)) ho0 (below_size (by repeat (first | (with_reducible first | exact HB.out | apply below_alloc | apply pw_below_drewN | apply below_drew1 | refine below_set ?_ GE221.out) | exact HB.out))) (fun k_ h_ => h_)) (Kd.R_lt (by (with_reducible repeat (first | apply Kd.R_alloc | apply Kd.R_drewN | apply Kd.R_drew)); exact HO_222000.out))) (Kd.R_lt (by (with_reducible repeat (first | apply Kd.R_alloc | apply Kd.R_drewN | apply Kd.R_drew)); exact HO_222001.out))) (below_size (by repeat (first | (with_reducible first | exact HB.out | apply below_alloc | apply pw_below_drewN | apply below_drew1 | refine below_set ?_ GE221.out) | exact HB.out)))); have n4_ := Aside0.mk (Kd.R_lower (Kd.R_new' (Kd.R_new' (Kd.R_newM (M := fun k_ => (w.heap.size ≤ k_)) ho1 (below_size (by repeat (first | (with_reducible first | exact HB.out | apply below_alloc | apply pw_below_drewN | apply below_drew1 | refine below_set ?_ GE221.out) | exact HB.out))) (fun k_ h_ => h_)) (Kd.R_lt (by (with_reducible repeat (first | apply Kd.R_alloc | apply Kd.R_drewN | apply Kd.R_drew)); exact HO_222000.out))) (Kd.R_lt (by (with_reducible repeat (first | apply Kd.R_alloc | apply Kd.R_drewN | apply Kd.R_drew)); exact HO_222001.out))) (below_size (by repeat (first | (with_reducible first | exact HB.out | apply below_alloc | apply pw_below_drewN | apply below_drew1 | refine below_set ?_ GE221.out) | exact HB.out)))); have n5_ := Aside0.mk (blk_below (g := gb221) (o := .cells #[.slice Ao14 t215.length co14, .slice Ao16 t218.length co16] 42 (0, 0)) (by (with_reducible repeat (first | refine blk_drewN ?_ _ | refine blk_drew ?_ | refine blk_alloc ?_ _)); exact BK221.out) hb); have n6_ := Aside0.mk (below_step (by repeat (first | (with_reducible first | exact HB.out | apply below_alloc | apply pw_below_drewN | apply below_drew1 | refine below_set ?_ GE221.out) | exact HB.out)) hb); clear HO_10; clear HO_222000; clear HO_222001; clear BK221; clear HB; have HO_10 := n0_; have HO_222000 := n1_; have HO_222001 := n2_; have HO249 := n3_; have HO252 := n4_; have BK221 := n5_; have HB := n6_; clear n0_ n1_ n2_ n3_ n4_ n5_ n6_; (try clear hb); (try clear hb2); (try clear hk); (try clear hi); (try clear ho0); (try clear ho1)) | ((with_reducible refine gate_dst (N := 16) rfl ?_); refine box_event ?hg (N := 16) ?hd (cs := #[.slice none 0 0, .slice none 0 0]) (t := 42) ?hr ?_; (case hd => rfl); (case hg => rfl); (case hr => first | (go_simp; done) | (go_simp; rfl)); intro gb254 hg w77 hbox hb; have n0_ := Aside0.mk (Kd.N_below (Kd.N_elderB (by (with_reducible repeat (first | apply Kd.N_alloc | apply Kd.N_drewN | apply Kd.N_drew)); exact HO_10.out) gb254 (Nat.le_of_eq hg.symm)) hb); have n1_ := Aside0.mk (Kd.R_below (by (with_reducible repeat (first | apply Kd.R_alloc | apply Kd.R_drewN | apply Kd.R_drew)); exact HO_222000.out) hb); have n2_ := Aside0.mk (Kd.R_below (by (with_reducible repeat (first | apply Kd.R_alloc | apply Kd.R_drewN | apply Kd.R_drew)); exact HO_222001.out) hb); have n3_ := Aside0.mk (Kd.R_below (by (with_reducible repeat (first | apply Kd.R_alloc | apply Kd.R_drewN | apply Kd.R_drew)); exact HO249.out) hb); have n4_ := Aside0.mk (Kd.R_below (by (with_reducible repeat (first | apply Kd.R_alloc | apply Kd.R_drewN | apply Kd.R_drew)); exact HO252.out) hb); have n5_ := Aside0.mk (blk_below (g := gb221) (o := .cells #[.slice Ao14 t215.length co14, .slice Ao16 t218.length co16] 42 (0, 0)) (by (with_reducible repeat (first | refine blk_drewN ?_ _ | refine blk_drew ?_ | refine blk_alloc ?_ _)); exact BK221.out) hb); have n6_ := Aside0.mk (below_step (by repeat (first | (with_reducible first | exact HB.out | apply below_alloc | apply pw_below_drewN | apply below_drew1 | refine below_set ?_ GE221.out) | exact HB.out)) hb); have n7_ := Aside0.mk (hbox); have n8_ := Aside0.mk ((by rw [hg]; exact (below_size (by repeat (first | (with_reducible first | exact HB.out | apply below_alloc | apply pw_below_drewN | apply below_drew1 | refine below_set ?_ GE221.out) | exact HB.out))) : w.heap.size ≤ gb254)); have n9_ := Aside0.mk ((by rw [hg]; exact (below_size (by repeat (first | (with_reducible first | exact HB.out | apply below_alloc | apply pw_below_drewN | apply below_drew1 | refine below_set ?_ GE221.out) | exact HB.out))) : w.heap.size ≤ gb254)); have n10_ := Aside0.mk ((by rw [hg]; exact Nat.ne_of_lt (blk_lt (g := gb221) (o := .cells #[.slice Ao14 t215.length co14, .slice Ao16 t218.length co16] 42 (0, 0)) (by (with_reducible repeat (first | refine blk_drewN ?_ _ | refine blk_drew ?_ | refine blk_alloc ?_ _)); exact BK221.out)) : gb221 ≠ gb254)); have n11_ := Aside0.mk ((by rw [hg]; exact Nat.ne_of_gt (blk_lt (g := gb221) (o := .cells #[.slice Ao14 t215.length co14, .slice Ao16 t218.length co16] 42 (0, 0)) (by (with_reducible repeat (first | refine blk_drewN ?_ _ | refine blk_drew ?_ | refine blk_alloc ?_ _)); exact BK221.out)) : gb254 ≠ gb221)); clear HO_10; clear HO_222000; clear HO_222001; clear HO249; clear HO252; clear BK221; clear HB; have HO_10 := n0_; have HO_222000 := n1_; have HO_222001 := n2_; have HO249 := n3_; have HO252 := n4_; have BK221 := n5_; have HB := n6_; have BK254 := n7_; have GW254 := n8_; have GE254 := n9_; have NB221_254 := n10_; have NB254_221 := n11_; clear n0_ n1_ n2_ n3_ n4_ n5_ n6_ n7_ n8_ n9_ n10_ n11_; clear hb hbox hg; obtain ⟨Ao78, co78, eo78⟩ := Kd.R_slice HO249.out; subst eo78; have hnb79 := NB254_221.out; have hnc79 := NB221_254.out; have hcz80_0 : w77.cell? ⟨gb254, 0, none⟩ = some (.slice none 0 0) := (blk_cell BK254.out 0).trans rfl; have hcz80_1 : w77.cell? ⟨gb254, 1, none⟩ = some (.slice none 0 0) := (blk_cell BK254.out 1).trans rfl; have hfz80_0 := blk_frozen BK254.out 0; have hfz80_1 := blk_frozen BK254.out 1; obtain ⟨Ao81, co81, eo81⟩ := Kd.R_slice HO252.out; subst eo81; have hcz82_0 : w77.cell? ⟨gb221, 0, none⟩ = some (.slice Ao14 t215.length co14) := (blk_cell BK221.out 0).trans rfl; have hcz82_1 : w77.cell? ⟨gb221, 1, none⟩ = some (.slice Ao16 t218.length co16) := (blk_cell BK221.out 1).trans rfl; have hfz82_0 := blk_frozen BK221.out 0; have hfz82_1 := blk_frozen BK221.out 1) | ((with_reducible refine gate_callee (f := 32) rfl ?_); refine goesL_ (some 70) rfl rfl Try.func32 (by kernel_rfl) rfl #[.agg #[.slice Ao14 t215.length co14, .slice Ao16 t218.length co16]] rfl (by (try simp only [List.map_toArray, List.map_cons, List.map_nil]); first | done | rfl | (simp only [List.length_drop, List.length_take]; rfl)) ?_; (with_reducible refine (synodalref8_Leave.calls _ _ t215 _ _ t218 t255 t258 t261 _ ?side1 ?side2 ?side3 ?side4 A55.out).mono ?_); (case side1 => refine (Kd.R_reads' (e := 3) (base := w.heap.size) (ok := fun k_ => ((((w.heap.size ≤ k_) ∧ some k_ ≠ (.slice Ao16 t218.length co16 : Value).ownBlock) ∧ some k_ ≠ (.slice Ao78 t247.length co78 : Value).ownBlock) ∧ some k_ ≠ (.slice Ao81 t250.length co81 : Value).ownBlock)) (n := t215.length) (c := co14) ?_).2.2; exact (by (with_reducible repeat (first | apply Kd.R_alloc | apply Kd.R_drewN | apply Kd.R_drew)); exact (Kd.R_mono (Kd.R_far (p := ⟨gb254, 1, none⟩) (Kd.R_far (p := ⟨gb254, 0, none⟩) (Kd.R_types HO_222000.out BK254.out (by decide)) (fun _ hk => hk.2) (.slice Ao78 t247.length co78)) (fun _ hk => hk.2) (.slice Ao81 t250.length co81)) (fun _ h_ => h_.1)))); (case side2 => exact (Kd.R_reads' HO_222000.out).2.1); (case side3 => refine (Kd.R_reads' (e := 3) (base := w.heap.size) (ok := fun k_ => ((((w.heap.size ≤ k_) ∧ some k_ ≠ (.slice Ao14 t215.length co14 : Value).ownBlock) ∧ some k_ ≠ (.slice Ao78 t247.length co78 : Value).ownBlock) ∧ some k_ ≠ (.slice Ao81 t250.length co81 : Value).ownBlock)) (n := t218.length) (c := co16) ?_).2.2; exact (by (with_reducible repeat (first | apply Kd.R_alloc | apply Kd.R_drewN | apply Kd.R_drew)); exact (Kd.R_mono (Kd.R_far (p := ⟨gb254, 1, none⟩) (Kd.R_far (p := ⟨gb254, 0, none⟩) (Kd.R_types HO_222001.out BK254.out (by decide)) (fun _ hk => hk.2) (.slice Ao78 t247.length co78)) (fun _ hk => hk.2) (.slice Ao81 t250.length co81)) (fun _ h_ => h_.1)))); (case side4 => exact (Kd.R_reads' HO_222001.out).2.1); rintro e w83 ⟨v256, v259, rfl, ho0, ho1, hb⟩; refine ⟨_, rfl, ?_⟩; have n0_ := Aside0.mk (Kd.N_mono (Kd.N_told (Kd.N_told (Kd.N_old (by (with_reducible repeat (first | apply Kd.N_alloc | apply Kd.N_drewN | apply Kd.N_drew)); exact (Kd.N_mono (Kd.N_far (p := ⟨gb254, 1, none⟩) (Kd.N_far (p := ⟨gb254, 0, none⟩) (Kd.N_mono HO_10.out (fun k_ hk => (⟨hk, hk.2⟩ : _ ∧ k_ ≠ gb254))) (fun _ hk => hk.2) (.slice Ao78 t247.length co78)) (fun _ hk => hk.2) (.slice Ao81 t250.length co81)) (fun _ h_ => h_.1))) hb) (Kd.R_base ho0)) (Kd.R_base ho1)) (fun _ h_ => h_.1)); have n1_ := Aside0.mk (Kd.R_mono (Kd.R_told (Kd.R_told (Kd.R_old (by (with_reducible repeat (first | apply Kd.R_alloc | apply Kd.R_drewN | apply Kd.R_drew)); exact (Kd.R_mono (Kd.R_far (p := ⟨gb254, 1, none⟩) (Kd.R_far (p := ⟨gb254, 0, none⟩) (Kd.R_types HO_222000.out BK254.out (by decide)) (fun _ hk => hk.2) (.slice Ao78 t247.length co78)) (fun _ hk => hk.2) (.slice Ao81 t250.length co81)) (fun _ h_ => h_.1))) hb) (Kd.R_base ho0)) (Kd.R_base ho1)) (fun _ h_ => h_.1)); have n2_ := Aside0.mk (Kd.R_mono (Kd.R_told (Kd.R_told (Kd.R_old (by (with_reducible repeat (first | apply Kd.R_alloc | apply Kd.R_drewN | apply Kd.R_drew)); exact (Kd.R_mono (Kd.R_far (p := ⟨gb254, 1, none⟩) (Kd.R_far (p := ⟨gb254, 0, none⟩) (Kd.R_types HO_222001.out BK254.out (by decide)) (fun _ hk => hk.2) (.slice Ao78 t247.length co78)) (fun _ hk => hk.2) (.slice Ao81 t250.length co81)) (fun _ h_ => h_.1))) hb) (Kd.R_base ho0)) (Kd.R_base ho1)) (fun _ h_ => h_.1)); have n3_ := Aside0.mk (Kd.R_mono (Kd.R_told (Kd.R_told (Kd.R_old (by (with_reducible repeat (first | apply Kd.R_alloc | apply Kd.R_drewN | apply Kd.R_drew)); exact (Kd.R_mono (Kd.R_far (p := ⟨gb254, 1, none⟩) (Kd.R_far (p := ⟨gb254, 0, none⟩) (Kd.R_types HO249.out BK254.out (by decide)) (fun _ hk => hk.2) (.slice Ao78 t247.length co78)) (fun _ hk => hk.2) (.slice Ao81 t250.length co81)) (fun _ h_ => h_.1))) hb) (Kd.R_base ho0)) (Kd.R_base ho1)) (fun _ h_ => h_.1)); have n4_ := Aside0.mk (Kd.R_mono (Kd.R_told (Kd.R_told (Kd.R_old (by (with_reducible repeat (first | apply Kd.R_alloc | apply Kd.R_drewN | apply Kd.R_drew)); exact (Kd.R_mono (Kd.R_far (p := ⟨gb254, 1, none⟩) (Kd.R_far (p := ⟨gb254, 0, none⟩) (Kd.R_types HO252.out BK254.out (by decide)) (fun _ hk => hk.2) (.slice Ao78 t247.length co78)) (fun _ hk => hk.2) (.slice Ao81 t250.length co81)) (fun _ h_ => h_.1))) hb) (Kd.R_base ho0)) (Kd.R_base ho1)) (fun _ h_ => h_.1)); have n5_ := Aside0.mk (Kd.R_lower (Kd.R_new' (Kd.R_new' (Kd.R_new' (Kd.R_new' (Kd.R_newM (M := fun k_ => (w.heap.size ≤ k_)) ho0 (below_size (by repeat (first | (with_reducible first | exact HB.out | apply below_alloc | apply pw_below_drewN | apply below_drew1 | refine below_set ?_ GE221.out | refine below_set ?_ GE254.out) | exact HB.out))) (fun k_ h_ => h_)) (Kd.R_lt (by (with_reducible repeat (first | apply Kd.R_alloc | apply Kd.R_drewN | apply Kd.R_drew)); exact (Kd.R_mono (Kd.R_far (p := ⟨gb254, 1, none⟩) (Kd.R_far (p := ⟨gb254, 0, none⟩) (Kd.R_types HO_222000.out BK254.out (by decide)) (fun _ hk => hk.2) (.slice Ao78 t247.length co78)) (fun _ hk => hk.2) (.slice Ao81 t250.length co81)) (fun _ h_ => h_.1))))) (Kd.R_lt (by (with_reducible repeat (first | apply Kd.R_alloc | apply Kd.R_drewN | apply Kd.R_drew)); exact (Kd.R_mono (Kd.R_far (p := ⟨gb254, 1, none⟩) (Kd.R_far (p := ⟨gb254, 0, none⟩) (Kd.R_types HO_222001.out BK254.out (by decide)) (fun _ hk => hk.2) (.slice Ao78 t247.length co78)) (fun _ hk => hk.2) (.slice Ao81 t250.length co81)) (fun _ h_ => h_.1))))) (Kd.R_lt (by (with_reducible repeat (first | apply Kd.R_alloc | apply Kd.R_drewN | apply Kd.R_drew)); exact (Kd.R_mono (Kd.R_far (p := ⟨gb254, 1, none⟩) (Kd.R_far (p := ⟨gb254, 0, none⟩) (Kd.R_types HO249.out BK254.out (by decide)) (fun _ hk => hk.2) (.slice Ao78 t247.length co78)) (fun _ hk => hk.2) (.slice Ao81 t250.length co81)) (fun _ h_ => h_.1))))) (Kd.R_lt (by (with_reducible repeat (first | apply Kd.R_alloc | apply Kd.R_drewN | apply Kd.R_drew)); exact (Kd.R_mono (Kd.R_far (p := ⟨gb254, 1, none⟩) (Kd.R_far (p := ⟨gb254, 0, none⟩) (Kd.R_types HO252.out BK254.out (by decide)) (fun _ hk => hk.2) (.slice Ao78 t247.length co78)) (fun _ hk => hk.2) (.slice Ao81 t250.length co81)) (fun _ h_ => h_.1))))) (below_size (by repeat (first | (with_reducible first | exact HB.out | apply below_alloc | apply pw_below_drewN | apply below_drew1 | refine below_set ?_ GE221.out | refine below_set ?_ GE254.out) | exact HB.out)))); have n6_ := Aside0.mk (Kd.R_lower (Kd.R_new' (Kd.R_new' (Kd.R_new' (Kd.R_new' (Kd.R_newM (M := fun k_ => (w.heap.size ≤ k_)) ho1 (below_size (by repeat (first | (with_reducible first | exact HB.out | apply below_alloc | apply pw_below_drewN | apply below_drew1 | refine below_set ?_ GE221.out | refine below_set ?_ GE254.out) | exact HB.out))) (fun k_ h_ => h_)) (Kd.R_lt (by (with_reducible repeat (first | apply Kd.R_alloc | apply Kd.R_drewN | apply Kd.R_drew)); exact (Kd.R_mono (Kd.R_far (p := ⟨gb254, 1, none⟩) (Kd.R_far (p := ⟨gb254, 0, none⟩) (Kd.R_types HO_222000.out BK254.out (by decide)) (fun _ hk => hk.2) (.slice Ao78 t247.length co78)) (fun _ hk => hk.2) (.slice Ao81 t250.length co81)) (fun _ h_ => h_.1))))) (Kd.R_lt (by (with_reducible repeat (first | apply Kd.R_alloc | apply Kd.R_drewN | apply Kd.R_drew)); exact (Kd.R_mono (Kd.R_far (p := ⟨gb254, 1, none⟩) (Kd.R_far (p := ⟨gb254, 0, none⟩) (Kd.R_types HO_222001.out BK254.out (by decide)) (fun _ hk => hk.2) (.slice Ao78 t247.length co78)) (fun _ hk => hk.2) (.slice Ao81 t250.length co81)) (fun _ h_ => h_.1))))) (Kd.R_lt (by (with_reducible repeat (first | apply Kd.R_alloc | apply Kd.R_drewN | apply Kd.R_drew)); exact (Kd.R_mono (Kd.R_far (p := ⟨gb254, 1, none⟩) (Kd.R_far (p := ⟨gb254, 0, none⟩) (Kd.R_types HO249.out BK254.out (by decide)) (fun _ hk => hk.2) (.slice Ao78 t247.length co78)) (fun _ hk => hk.2) (.slice Ao81 t250.length co81)) (fun _ h_ => h_.1))))) (Kd.R_lt (by (with_reducible repeat (first | apply Kd.R_alloc | apply Kd.R_drewN | apply Kd.R_drew)); exact (Kd.R_mono (Kd.R_far (p := ⟨gb254, 1, none⟩) (Kd.R_far (p := ⟨gb254, 0, none⟩) (Kd.R_types HO252.out BK254.out (by decide)) (fun _ hk => hk.2) (.slice Ao78 t247.length co78)) (fun _ hk => hk.2) (.slice Ao81 t250.length co81)) (fun _ h_ => h_.1))))) (below_size (by repeat (first | (with_reducible first | exact HB.out | apply below_alloc | apply pw_below_drewN | apply below_drew1 | refine below_set ?_ GE221.out | refine below_set ?_ GE254.out) | exact HB.out)))); have n7_ := Aside0.mk (blk_below (g := gb221) (o := .cells #[.slice Ao14 t215.length co14, .slice Ao16 t218.length co16] 42 (0, 0)) (by (with_reducible repeat (first | refine blk_drewN ?_ _ | refine blk_drew ?_ | refine blk_alloc ?_ _)); refine blk_far ?_ NB221_254.out _; (with_reducible repeat (first | refine blk_drewN ?_ _ | refine blk_drew ?_ | refine blk_alloc ?_ _)); refine blk_far ?_ NB221_254.out _; (with_reducible repeat (first | refine blk_drewN ?_ _ | refine blk_drew ?_ | refine blk_alloc ?_ _)); exact BK221.out) hb); have n8_ := Aside0.mk (blk_below (g := gb254) (o := .cells #[.slice Ao78 t247.length co78, .slice Ao81 t250.length co81] 42 (0, 0)) (by (with_reducible repeat (first | refine blk_drewN ?_ _ | refine blk_drew ?_ | refine blk_alloc ?_ _)); refine blk_put (cs := #[.slice Ao78 t247.length co78, .slice none 0 0]) ?_ 1 _ rfl; (with_reducible repeat (first | refine blk_drewN ?_ _ | refine blk_drew ?_ | refine blk_alloc ?_ _)); refine blk_put (cs := #[.slice none 0 0, .slice none 0 0]) ?_ 0 _ rfl; (with_reducible repeat (first | refine blk_drewN ?_ _ | refine blk_drew ?_ | refine blk_alloc ?_ _)); exact BK254.out) hb); have n9_ := Aside0.mk (below_step (by repeat (first | (with_reducible first | exact HB.out | apply below_alloc | apply pw_below_drewN | apply below_drew1 | refine below_set ?_ GE221.out | refine below_set ?_ GE254.out) | exact HB.out)) hb); clear HO_10; clear HO_222000; clear HO_222001; clear HO249; clear HO252; clear BK221; clear BK254; clear HB; have HO_10 := n0_; have HO_222000 := n1_; have HO_222001 := n2_; have HO249 := n3_; have HO252 := n4_; have HO257 := n5_; have HO260 := n6_; have BK221 := n7_; have BK254 := n8_; have HB := n9_; clear n0_ n1_ n2_ n3_ n4_ n5_ n6_ n7_ n8_ n9_; (try clear hb); (try clear hb2); (try clear hk); (try clear hi); (try clear ho0); (try clear ho1)) | ((with_reducible refine gate_dst (N := 18) rfl ?_); refine box_event ?hg (N := 18) ?hd (cs := #[.slice none 0 0, .slice none 0 0]) (t := 42) ?hr ?_; (case hd => rfl); (case hg => rfl); (case hr => first | (go_simp; done) | (go_simp; rfl)); intro gb262 hg w84 hbox hb; have n0_ := Aside0.mk (Kd.N_below (Kd.N_elderB (by (with_reducible repeat (first | apply Kd.N_alloc | apply Kd.N_drewN | apply Kd.N_drew)); exact HO_10.out) gb262 (Nat.le_of_eq hg.symm)) hb); have n1_ := Aside0.mk (Kd.R_below (by (with_reducible repeat (first | apply Kd.R_alloc | apply Kd.R_drewN | apply Kd.R_drew)); exact HO_222000.out) hb); have n2_ := Aside0.mk (Kd.R_below (by (with_reducible repeat (first | apply Kd.R_alloc | apply Kd.R_drewN | apply Kd.R_drew)); exact HO_222001.out) hb); have n3_ := Aside0.mk (Kd.R_below (by (with_reducible repeat (first | apply Kd.R_alloc | apply Kd.R_drewN | apply Kd.R_drew)); exact HO249.out) hb); have n4_ := Aside0.mk (Kd.R_below (by (with_reducible repeat (first | apply Kd.R_alloc | apply Kd.R_drewN | apply Kd.R_drew)); exact HO252.out) hb); have n5_ := Aside0.mk (Kd.R_below (by (with_reducible repeat (first | apply Kd.R_alloc | apply Kd.R_drewN | apply Kd.R_drew)); exact HO257.out) hb); have n6_ := Aside0.mk (Kd.R_below (by (with_reducible repeat (first | apply Kd.R_alloc | apply Kd.R_drewN | apply Kd.R_drew)); exact HO260.out) hb); have n7_ := Aside0.mk (blk_below (g := gb221) (o := .cells #[.slice Ao14 t215.length co14, .slice Ao16 t218.length co16] 42 (0, 0)) (by (with_reducible repeat (first | refine blk_drewN ?_ _ | refine blk_drew ?_ | refine blk_alloc ?_ _)); exact BK221.out) hb); have n8_ := Aside0.mk (blk_below (g := gb254) (o := .cells #[.slice Ao78 t247.length co78, .slice Ao81 t250.length co81] 42 (0, 0)) (by (with_reducible repeat (first | refine blk_drewN ?_ _ | refine blk_drew ?_ | refine blk_alloc ?_ _)); exact BK254.out) hb); have n9_ := Aside0.mk (below_step (by repeat (first | (with_reducible first | exact HB.out | apply below_alloc | apply pw_below_drewN | apply below_drew1 | refine below_set ?_ GE221.out | refine below_set ?_ GE254.out) | exact HB.out)) hb); have n10_ := Aside0.mk (hbox); have n11_ := Aside0.mk ((by rw [hg]; exact (below_size (by repeat (first | (with_reducible first | exact HB.out | apply below_alloc | apply pw_below_drewN | apply below_drew1 | refine below_set ?_ GE221.out | refine below_set ?_ GE254.out) | exact HB.out))) : w.heap.size ≤ gb262)); have n12_ := Aside0.mk ((by rw [hg]; exact (below_size (by repeat (first | (with_reducible first | exact HB.out | apply below_alloc | apply pw_below_drewN | apply below_drew1 | refine below_set ?_ GE221.out | refine below_set ?_ GE254.out) | exact HB.out))) : w.heap.size ≤ gb262)); have n13_ := Aside0.mk ((by rw [hg]; exact Nat.ne_of_lt (blk_lt (g := gb221) (o := .cells #[.slice Ao14 t215.length co14, .slice Ao16 t218.length co16] 42 (0, 0)) (by (with_reducible repeat (first | refine blk_drewN ?_ _ | refine blk_drew ?_ | refine blk_alloc ?_ _)); exact BK221.out)) : gb221 ≠ gb262)); have n14_ := Aside0.mk ((by rw [hg]; exact Nat.ne_of_gt (blk_lt (g := gb221) (o := .cells #[.slice Ao14 t215.length co14, .slice Ao16 t218.length co16] 42 (0, 0)) (by (with_reducible repeat (first | refine blk_drewN ?_ _ | refine blk_drew ?_ | refine blk_alloc ?_ _)); exact BK221.out)) : gb262 ≠ gb221)); have n15_ := Aside0.mk ((by rw [hg]; exact Nat.ne_of_lt (blk_lt (g := gb254) (o := .cells #[.slice Ao78 t247.length co78, .slice Ao81 t250.length co81] 42 (0, 0)) (by (with_reducible repeat (first | refine blk_drewN ?_ _ | refine blk_drew ?_ | refine blk_alloc ?_ _)); exact BK254.out)) : gb254 ≠ gb262)); have n16_ := Aside0.mk ((by rw [hg]; exact Nat.ne_of_gt (blk_lt (g := gb254) (o := .cells #[.slice Ao78 t247.length co78, .slice Ao81 t250.length co81] 42 (0, 0)) (by (with_reducible repeat (first | refine blk_drewN ?_ _ | refine blk_drew ?_ | refine blk_alloc ?_ _)); exact BK254.out)) : gb262 ≠ gb254)); clear HO_10; clear HO_222000; clear HO_222001; clear HO249; clear HO252; clear HO257; clear HO260; clear BK221; clear BK254; clear HB; have HO_10 := n0_; have HO_222000 := n1_; have HO_222001 := n2_; have HO249 := n3_; have HO252 := n4_; have HO257 := n5_; have HO260 := n6_; have BK221 := n7_; have BK254 := n8_; have HB := n9_; have BK262 := n10_; have GW262 := n11_; have GE262 := n12_; have NB221_262 := n13_; have NB262_221 := n14_; have NB254_262 := n15_; have NB262_254 := n16_; clear n0_ n1_ n2_ n3_ n4_ n5_ n6_ n7_ n8_ n9_ n10_ n11_ n12_ n13_ n14_ n15_ n16_; clear hb hbox hg; obtain ⟨Ao85, co85, eo85⟩ := Kd.R_slice HO257.out; subst eo85; have hnb86 := NB262_221.out; have hnc86 := NB221_262.out; have hnb87 := NB262_254.out; have hnc87 := NB254_262.out; have hcz88_0 : w84.cell? ⟨gb262, 0, none⟩ = some (.slice none 0 0) := (blk_cell BK262.out 0).trans rfl; have hcz88_1 : w84.cell? ⟨gb262, 1, none⟩ = some (.slice none 0 0) := (blk_cell BK262.out 1).trans rfl; have hfz88_0 := blk_frozen BK262.out 0; have hfz88_1 := blk_frozen BK262.out 1; obtain ⟨Ao89, co89, eo89⟩ := Kd.R_slice HO260.out; subst eo89))
              go_ret
              exact ⟨by first | rfl | (simp [errW_none, errW_some] <;> rfl) | (simp [*, errW_none, errW_some] <;> rfl), by repeat (first | (with_reducible first | exact HB.out | apply below_alloc | apply pw_below_drewN | apply below_drew1 | refine below_set ?_ GE221.out | refine below_set ?_ GE254.out | refine below_set ?_ GE262.out) | exact HB.out)⟩
  · replace c6 := Bool.eq_false_iff.mpr c6
    subst c6
    have H1 : (some false) = some r := by rw [if_neg (show ¬ (false = true) by decide)] at H; exact H
    clear H
    have H := H1
    clear H1
    obtain rfl := Option.some.inj H
    go_enter Try.func8, Try.ntmps8
    go_wp2_with (first | ((with_reducible refine gate_callee (f := 20) rfl ?_); refine goesL_ (some 20) rfl rfl Try.func20 (by kernel_rfl) rfl #[] rfl (by (try simp only [List.map_toArray, List.map_cons, List.map_nil]); first | done | rfl | (simp only [List.length_drop, List.length_take]; rfl)) ?_; (with_reducible refine (synodallaw8_known.calls k  false _ A5.out).mono ?_); rintro e w90 ⟨rfl, hb⟩; refine ⟨_, rfl, ?_⟩; have n0_ := Aside0.mk (Kd.V_below (by (with_reducible repeat (first | apply Kd.V_alloc | apply Kd.V_drewN | apply Kd.V_drew)); exact HO2.out) hb); have n1_ := Aside0.mk (below_step (by repeat (first | (with_reducible first | exact HB.out | apply below_alloc | apply pw_below_drewN | apply below_drew1) | exact HB.out)) hb); clear HO2; clear HB; have HO2 := n0_; have HB := n1_; clear n0_ n1_; (try clear hb); (try clear hb2); (try clear hk); (try clear hi)))
    go_ret
    exact ⟨by first | rfl | (simp [errW_none, errW_some] <;> rfl) | (simp [*, errW_none, errW_some] <;> rfl), by repeat (first | (with_reducible first | exact HB.out | apply below_alloc | apply pw_below_drewN | apply below_drew1) | exact HB.out)⟩

end Go.Proofs.Ytimeknpdgloenaa.XConfSteps
