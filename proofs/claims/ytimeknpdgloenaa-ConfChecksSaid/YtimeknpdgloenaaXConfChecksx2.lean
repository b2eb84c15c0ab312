/- Laid by xprint.py, a program of this session, which runs the kit's print with contracts of its own. -/
import Derived.Test.YtimeknpdgloenaaXConfChecksx0
import Derived.Test.YtimeknpdgloenaaXConfChecksx1
namespace Go.Proofs.Ytimeknpdgloenaa.XConfChecks
open Go.RowKit Go.Proofs.YtimeknpdgloenaaW.PrintWords Go.Proofs.YtimeknpdgloenaaW.PrintLast Go.Proofs.YtimeknpdgloenaaW.PrintMore
attribute [local go_sem] max2_int min2_int max_two min_two max_three min_three max_four min_four   -- for this text's walks alone
set_option linter.unusedVariables false
set_option linter.unusedSimpArgs false

/-! ### conf_Check: function 24 -/
def conf_Check.l0 : Nat → List (List Int) → Int → Int → Option (Int)
  | 0, _, _, _ => none
  | k + 1, x9, x10, x11 => if x11 < x10 then (if 0 ≤ x11 then (if x11 < (x9.length : Int) then ((conf_list.f k (rd_L1 x9 x11)).bind fun t140 => (if t140 = 1 then (some 4) else (if t140 = 2 then (some 1) else (if t140 = 3 then (if x11 = 1 then (some 2) else (conf_Check.l0 k x9 x10 (wrap64 (x11 + 1)))) else (conf_Check.l0 k x9 x10 (wrap64 (x11 + 1))))))) else (none)) else (none)) else (some 0)
def conf_Check.f (k : Nat) (l0_0 : List Int) (l0_1 : List Int) : Option (Int) := (some (([l0_0, l0_1] : List (List Int)) : List (List Int))).bind fun y136 => (conf_Check.l0 k y136 (y136.length : Int) 0)
theorem conf_Check.mono_l : ∀ k, (∀ y0 y1 y2, LeO (conf_Check.l0 k y0 y1 y2) (conf_Check.l0 (k + 1) y0 y1 y2))
  | 0 => fun _ _ _ r h => by simp [conf_Check.l0] at h
  | k + 1 => by
    have ih0 := conf_Check.mono_l k
    · intro y0 y1 y2
      unfold conf_Check.l0
      repeat' first
      | (with_reducible exact ih0 _ _ _)
      | (with_reducible exact conf_list.mono _ _)
      | (with_reducible exact LeO.refl _)
      | (with_reducible exact LeO.none _)
      | (with_reducible refine LeO.ite ?_ ?_)
      | (with_reducible refine LeO.bind ?_ (fun _ => ?_))
      | exact ih0 _ _ _
      | exact conf_list.mono _ _
      | exact LeO.none _
      | refine LeO.ite ?_ ?_
      | refine LeO.bind ?_ (fun _ => ?_)
theorem conf_Check.mono : ∀ a0 a1 k, LeO (conf_Check.f k a0 a1) (conf_Check.f (k + 1) a0 a1) := by
  intro a0 a1 k
  have ih0 := conf_Check.mono_l k
  unfold conf_Check.f
  repeat' first
      | (with_reducible exact ih0 _ _ _)
      | (with_reducible exact conf_list.mono _ _)
      | (with_reducible exact LeO.refl _)
      | (with_reducible exact LeO.none _)
      | (with_reducible refine LeO.ite ?_ ?_)
      | (with_reducible refine LeO.bind ?_ (fun _ => ?_))
      | exact ih0 _ _ _
      | exact conf_list.mono _ _
      | exact LeO.none _
      | refine LeO.ite ?_ ?_
      | refine LeO.bind ?_ (fun _ => ?_)
set_option maxHeartbeats 8000000 in
set_option maxRecDepth 100000 in
theorem conf_Check.calls (k : Nat) (P0_0_ : Nat → Prop) (A0_0 : Option Addr) (c0_0 : Nat) (l0_0 : List Int) (P0_1_ : Nat → Prop) (A0_1 : Option Addr) (c0_1 : Nat) (l0_1 : List Int) (r : Int) (w : World) (hs0_0 : Kd.V (Kd.int .i64) 3 w w.heap.size (fun k_ => P0_0_ k_) (.slice A0_0 l0_0.length c0_0) l0_0) (hs0_1 : Kd.V (Kd.int .i64) 3 w w.heap.size (fun k_ => P0_1_ k_) (.slice A0_1 l0_1.length c0_1) l0_1) (h : conf_Check.f k l0_0 l0_1 = some r) :
    Calls Try.prog 24 #[.agg #[.slice A0_0 l0_0.length c0_0, .slice A0_1 l0_1.length c0_1]] w fun e w' => e = .returned (.int .i64 r) ∧ Below w.heap.size w w' := by
  have hu42 := Try.underlying42
  have HO0_0 := Aside0.mk (show Kd.V (Kd.int .i64) 3 w w.heap.size (fun k_ => ((P0_0_ k_ ∨ P0_1_ k_) ∨ w.heap.size ≤ k_)) (.slice A0_0 l0_0.length c0_0) l0_0 from Kd.V_mono hs0_0 (fun k_ hk => .inl (.inl hk)))
  have HO0_1 := Aside0.mk (show Kd.V (Kd.int .i64) 3 w w.heap.size (fun k_ => ((P0_0_ k_ ∨ P0_1_ k_) ∨ w.heap.size ≤ k_)) (.slice A0_1 l0_1.length c0_1) l0_1 from Kd.V_mono hs0_1 (fun k_ hk => .inl (.inr hk)))
  have HB := Aside0.mk (Below.refl w.heap.size w)
  have H : ((some (([l0_0, l0_1] : List (List Int)) : List (List Int))).bind fun y136 => (conf_Check.l0 k y136 (y136.length : Int) 0)) = some r := h
  clear h
  obtain ⟨y136, hy136⟩ : ∃ y_ : List (List Int), y_ = (([l0_0, l0_1] : List (List Int))) := ⟨_, rfl⟩
  replace H : (conf_Check.l0 k y136 (y136.length : Int) 0) = some r := by first | (rw [hy136]; with_reducible exact H) | (have H2_ := (Option.bind_some _ _).symm.trans H; rw [hy136]; with_reducible exact H2_) | (have H2_ := (Option.bind_some _ _).symm.trans H; with_reducible exact H2_) | with_reducible exact H | (rw [hy136]; exact H) | exact H
  have Ny136 := Aside0.mk hy136
  clear hy136
  have H' := Aside0.mk H
  clear H
  go_enter Try.func24, Try.ntmps24
  go_wp2_with (first | ((with_reducible refine gate_dst (N := 1) rfl ?_); refine box_event ?hg (N := 1) ?hd (cs := #[.slice A0_0 l0_0.length c0_0, .slice A0_1 l0_1.length c0_1]) (t := 42) ?hr ?_; (case hd => rfl); (case hg => rfl); (case hr => first | (go_simp; done) | (go_simp; rfl)); intro gb135 hg w2 hbox hb; have n0_ := Aside0.mk (Kd.V_below (Kd.V_elderB (by (with_reducible repeat (first | apply Kd.V_alloc | apply Kd.V_drewN | apply Kd.V_drew)); exact HO0_0.out) gb135 (Nat.le_of_eq hg.symm)) hb); have n1_ := Aside0.mk (Kd.V_below (Kd.V_elderB (by (with_reducible repeat (first | apply Kd.V_alloc | apply Kd.V_drewN | apply Kd.V_drew)); exact HO0_1.out) gb135 (Nat.le_of_eq hg.symm)) hb); have n2_ := Aside0.mk (below_step (by repeat (first | (with_reducible first | exact HB.out | apply below_alloc | apply pw_below_drewN | apply below_drew1) | exact HB.out)) hb); have n3_ := Aside0.mk (hbox); have n4_ := Aside0.mk ((by rw [hg]; exact (below_size (by repeat (first | (with_reducible first | exact HB.out | apply below_alloc | apply pw_below_drewN | apply below_drew1) | exact HB.out))) : w.heap.size ≤ gb135)); have n5_ := Aside0.mk ((by rw [hg]; exact (below_size (by repeat (first | (with_reducible first | exact HB.out | apply below_alloc | apply pw_below_drewN | apply below_drew1) | exact HB.out))) : w.heap.size ≤ gb135)); clear HO0_0; clear HO0_1; clear HB; have HO0_0 := n0_; have HO0_1 := n1_; have HB := n2_; have BK135 := n3_; have GW135 := n4_; have GE135 := n5_; clear n0_ n1_ n2_ n3_ n4_ n5_; clear hb hbox hg; have hcz3_0 : w2.cell? ⟨gb135, 0, none⟩ = some (.slice A0_0 l0_0.length c0_0) := (blk_cell BK135.out 0).trans rfl; have hcz3_1 : w2.cell? ⟨gb135, 1, none⟩ = some (.slice A0_1 l0_1.length c0_1) := (blk_cell BK135.out 1).trans rfl; have hfz3_0 := blk_frozen BK135.out 0; have hfz3_1 := blk_frozen BK135.out 1) | ((with_reducible refine gate_dst (N := 9) rfl ?_); refine Kd.N_lit (Kd.slice 3 (Kd.int .i64)) _ 22 ?hg (N' := 9) ?hd (xs := ([l0_0, l0_1] : List (List Int))) (inner := [.slice A0_0 l0_0.length c0_0, .slice A0_1 l0_1.length c0_1]) (ok := (fun k_ => ((P0_0_ k_ ∨ P0_1_ k_) ∨ w.heap.size ≤ k_) ∧ k_ ≠ gb135)) (okp := (fun k_ => ((P0_0_ k_ ∨ P0_1_ k_) ∨ w.heap.size ≤ k_) ∧ k_ ≠ gb135)) ?hr ?hp (fun _ hk => hk) ((show ∀ k_, w2.heap.size ≤ k_ → (fun k_ => ((P0_0_ k_ ∨ P0_1_ k_) ∨ w.heap.size ≤ k_) ∧ k_ ≠ gb135) k_ from fun k_ hk => ⟨(.inr (Nat.le_trans (below_size (by repeat (first | (with_reducible first | exact HB.out | apply below_alloc | apply pw_below_drewN | apply below_drew1 | refine below_set ?_ GE135.out) | exact HB.out))) hk)), Kd.freshB (g := gb135) (o := .cells #[.slice A0_0 l0_0.length c0_0, .slice A0_1 l0_1.length c0_1] 42 (0, 0)) (by (with_reducible repeat (first | refine blk_drewN ?_ _ | refine blk_drew ?_ | refine blk_alloc ?_ _)); exact BK135.out) k_ hk⟩) _ (Nat.le_refl _)) (Below.refl _ _) (Nat.le_refl _) (by simp) ?_; (case hd => rfl); (case hg => rfl); (case hr => first | (go_simp; done) | (go_simp; rfl)); (case hp => exact (Reps.one (show Kd.FK (Kd.slice 3 (Kd.int .i64)) _ _ l0_0 [.slice A0_0 l0_0.length c0_0] from (Kd.FK_slice_mk (Kd.V_reads' (Kd.V_mono (ok' := (fun k_ => ((P0_0_ k_ ∨ P0_1_ k_) ∨ w.heap.size ≤ k_) ∧ k_ ≠ gb135)) (HO0_0.out) (fun k_ hk => ⟨hk.1, hk.2⟩))).2.1 (Kd.V_F (Kd.V_mono (ok' := (fun k_ => ((P0_0_ k_ ∨ P0_1_ k_) ∨ w.heap.size ≤ k_) ∧ k_ ≠ gb135)) (HO0_0.out) (fun k_ hk => ⟨hk.1, hk.2⟩))))) (Reps.one (show Kd.FK (Kd.slice 3 (Kd.int .i64)) _ _ l0_1 [.slice A0_1 l0_1.length c0_1] from (Kd.FK_slice_mk (Kd.V_reads' (Kd.V_mono (ok' := (fun k_ => ((P0_0_ k_ ∨ P0_1_ k_) ∨ w.heap.size ≤ k_) ∧ k_ ≠ gb135)) (HO0_1.out) (fun k_ hk => ⟨hk.1, hk.2⟩))).2.1 (Kd.V_F (Kd.V_mono (ok' := (fun k_ => ((P0_0_ k_ ∨ P0_1_ k_) ∨ w.heap.size ≤ k_) ∧ k_ ≠ gb135)) (HO0_1.out) (fun k_ hk => ⟨hk.1, hk.2⟩))))) (Reps.none _ _)))); intro v137 w4 ho5 hb hg_ hnew_; clear hg_ hnew_; (first | rw [← Ny136.out] at ho5 | (simp only [Int.reduceToNat] at ho5; rw [← Ny136.out] at ho5)); have n0_ := Aside0.mk (Kd.V_elder' (by (with_reducible repeat (first | apply Kd.V_alloc | apply Kd.V_drewN | apply Kd.V_drew)); exact HO0_0.out) (Kd.N_base ho5) hb); have n1_ := Aside0.mk (Kd.V_elder' (by (with_reducible repeat (first | apply Kd.V_alloc | apply Kd.V_drewN | apply Kd.V_drew)); exact HO0_1.out) (Kd.N_base ho5) hb); have n2_ := Aside0.mk (Kd.N_lower ho5 (below_size (by repeat (first | (with_reducible first | exact HB.out | apply below_alloc | apply pw_below_drewN | apply below_drew1 | refine below_set ?_ GE135.out) | exact HB.out)))); have n3_ := Aside0.mk (blk_below (g := gb135) (o := .cells #[.slice A0_0 l0_0.length c0_0, .slice A0_1 l0_1.length c0_1] 42 (0, 0)) (by (with_reducible repeat (first | refine blk_drewN ?_ _ | refine blk_drew ?_ | refine blk_alloc ?_ _)); exact BK135.out) hb); have n4_ := Aside0.mk (below_step (by repeat (first | (with_reducible first | exact HB.out | apply below_alloc | apply pw_below_drewN | apply below_drew1 | refine below_set ?_ GE135.out) | exact HB.out)) hb); clear HO0_0; clear HO0_1; clear BK135; clear HB; have HO0_0 := n0_; have HO0_1 := n1_; have HO138 := n2_; have BK135 := n3_; have HB := n4_; clear n0_ n1_ n2_ n3_ n4_; clear hb ho5; obtain ⟨Ao6, co6, eo6⟩ := Kd.N_slice HO138.out; subst eo6))
  go_loopg [11] k (fun kq v11 w' => ∃ (x11_1 : Int), v11 = .int .i64 x11_1 ∧ Aside0 (conf_Check.l0 kq y136 (y136.length : Int) x11_1 = some r) ∧ Aside0 (kq ≤ k) ∧ Aside0 (Kd.N (Kd.slice 3 (Kd.int .i64)) 22 w' w.heap.size (fun k_ => ((P0_0_ k_ ∨ P0_1_ k_) ∨ w.heap.size ≤ k_) ∧ k_ ≠ gb135) (.slice Ao6 y136.length co6) y136) ∧ Aside0 (Kd.V (Kd.int .i64) 3 w' w.heap.size (fun k_ => ((P0_0_ k_ ∨ P0_1_ k_) ∨ w.heap.size ≤ k_) ∧ some k_ ≠ ((.slice Ao6 y136.length co6) : Value).ownBlock ∧ k_ ≠ gb135) (.slice A0_0 l0_0.length c0_0) l0_0) ∧ Aside0 (Kd.V (Kd.int .i64) 3 w' w.heap.size (fun k_ => ((P0_0_ k_ ∨ P0_1_ k_) ∨ w.heap.size ≤ k_) ∧ some k_ ≠ ((.slice Ao6 y136.length co6) : Value).ownBlock ∧ k_ ≠ gb135) (.slice A0_1 l0_1.length c0_1) l0_1) ∧ Aside0 (w'.heap[gb135]? = some (.cells #[(.slice A0_0 l0_0.length c0_0), (.slice A0_1 l0_1.length c0_1)] 42 (0, 0))) ∧ Aside0 (Below w.heap.size w w'))
  case atStart => exact ⟨(0), (by first | rfl | (simp; done) | (simp [*]; done)), H', ⟨Nat.le_refl _⟩, ⟨by (with_reducible repeat (first | apply Kd.N_alloc | apply Kd.N_drewN | apply Kd.N_drew)); exact HO138.out⟩, ⟨by (with_reducible repeat (first | apply Kd.V_alloc | apply Kd.V_drewN | apply Kd.V_drew)); exact Kd.V_mono HO0_0.out (fun _ hk => ⟨hk.1.1, ⟨hk.2, hk.1.2⟩⟩)⟩, ⟨by (with_reducible repeat (first | apply Kd.V_alloc | apply Kd.V_drewN | apply Kd.V_drew)); exact Kd.V_mono HO0_1.out (fun _ hk => ⟨hk.1.1, ⟨hk.2, hk.1.2⟩⟩)⟩, ⟨by (with_reducible repeat (first | refine blk_drewN ?_ _ | refine blk_drew ?_ | refine blk_alloc ?_ _)); exact BK135.out⟩, ⟨by repeat (first | (with_reducible first | exact HB.out | apply below_alloc | apply pw_below_drewN | apply below_drew1 | refine below_set ?_ GE135.out) | exact HB.out)⟩⟩
  case round =>
    clear H'
    try clear c2
    try clear p2
    try clear hcz3_0
    try clear hcz3_1
    try clear hfz3_0
    try clear hfz3_1
    obtain ⟨x11_1, rfl, HA, HK1, HO_9, HO_136000, HO_136001, BK135, HB⟩ := hrel
    cases gk with
    | zero => exact absurd HA.out (by simp [conf_Check.l0])
    | succ k1 =>
      have H := HA.out
      clear HA
      simp only [conf_Check.l0] at H
      by_cases c7 : x11_1 < (y136.length : Int)
      · rw [if_pos c7] at H
        have c7b0 : decide (x11_1 < (y136.length : Int)) = true := decide_eq_true c7
        clear c7
        by_cases c8 : 0 ≤ x11_1
        · rw [if_pos c8] at H
          have c8b0 : decide (0 ≤ x11_1) = true := decide_eq_true c8
          clear c8
          by_cases c9 : x11_1 < (y136.length : Int)
          · rw [if_pos c9] at H
            have c9b0 : decide (x11_1 < (y136.length : Int)) = true := decide_eq_true c9
            clear c9
            replace H := Option.bind_eq_some_iff.mp H
            obtain ⟨t140, A100, H⟩ := H
            replace H : (if t140 = 1 then (some 4) else (if t140 = 2 then (some 1) else (if t140 = 3 then (if x11_1 = 1 then (some 2) else (conf_Check.l0 k1 y136 (y136.length : Int) (wrap64 (x11_1 + 1)))) else (conf_Check.l0 k1 y136 (y136.length : Int) (wrap64 (x11_1 + 1)))))) = some r := H
            have A10 := Aside0.mk A100
            clear A100
            by_cases c11 : t140 = 1
            · rw [if_pos c11] at H
              have c11b0 : (t140 == 1) = true := beq_iff_eq.mpr c11
              have c11b1 : (t140 != 1) = false := bne_eq_false_iff_eq.mpr c11
              clear c11
              obtain rfl := Option.some.inj H
              have p139 : 0 ≤ (x11_1 : Int) := of_decide_eq_true (by first | (with_reducible assumption) | assumption)
              have q139 : x11_1 < (y136.length : Int) := of_decide_eq_true (by first | (with_reducible assumption) | assumption)
              obtain ⟨ad139, A139_0, c139_0, e139, hx139_0, hl139_0, hi139_0⟩ := at_L1 (Kd.N_reads' HO_9.out).2.2 x11_1 p139 q139
              cases e139
              obtain ⟨ce139, hce139, hMe139, hcc139⟩ := Kd.N_get HO_9.out [] x11_1 p139 (by first | exact q139 | exact of_decide_eq_true (by first | (with_reducible assumption) | assumption) | (have e_ := (Kd.N_reads' HO_9.out).1; omega))
              obtain ⟨ua139_0, uc139_0, rfl, ul139_0, ge139_0⟩ := Kd.FK_slice_open hMe139
              have hv139_0 := hcc139 0 _ rfl
              rw [Nat.add_zero, show ((Kd.slice 3 (Kd.int .i64))).sz = 1 from rfl, Nat.mul_one] at hv139_0
              replace hv139_0 := Option.some.inj (hv139_0.symm.trans hx139_0)
              injection hv139_0 with hva_ hvn_ hvc_
              rw [hva_] at ge139_0
              rw [hvc_] at ul139_0
              have HL139_0 := Aside0.mk (show Kd.V (Kd.int .i64) 3 _ w.heap.size _ _ (rd_L1 y136 x11_1) from Kd.V_mk ul139_0 ge139_0)
              clear hva_ hvn_ hvc_ ge139_0 ul139_0
              clear hcc139 hce139
              have HR139_0 := Aside0.mk hi139_0
              have HC139_0 := Aside0.mk hl139_0
              clear hi139_0 hl139_0
              replace p139 := eq_true p139
              replace q139 := eq_true q139
              go_wp2_with (first | ((with_reducible refine gate_callee (f := 40) rfl ?_); refine goesL_ (some 17) rfl rfl Try.func40 (by kernel_rfl) rfl #[.slice A139_0 (rd_L1 y136 x11_1).length c139_0] rfl (by (try simp only [List.map_toArray, List.map_cons, List.map_nil]); first | done | rfl | (simp only [List.length_drop, List.length_take]; rfl)) ?_; (with_reducible refine (conf_list.calls k1 _ _ (rd_L1 y136 x11_1) t140 _ ?side1 ?side2 A10.out).mono ?_); (case side1 => repeat (first | exact (by repeat (first | (with_reducible exact HR139_0.out) | (with_reducible refine Kd.C_alloc ?_ _) | (with_reducible refine Kd.C_drewN ?_ _) | (with_reducible refine Kd.C_drew ?_) | exact HR139_0.out)) | (with_reducible refine Kd.C_alloc ?_ _) | (with_reducible refine Kd.C_drewN ?_ _) | (with_reducible refine Kd.C_drew ?_))); (case side2 => exact HC139_0.out); rintro e w' ⟨rfl, ⟨nd, rfl⟩⟩; refine ⟨_, rfl, ?_⟩))
              go_ret
              exact ⟨by first | rfl | (simp [errW_none, errW_some] <;> rfl) | (simp [*, errW_none, errW_some] <;> rfl), by repeat (first | (with_reducible first | exact HB.out | apply below_alloc | apply pw_below_drewN | apply below_drew1 | refine below_set ?_ GE135.out) | exact HB.out)⟩
            · rw [if_neg c11] at H
              have c11b0 : (t140 == 1) = false := beq_eq_false_iff_ne.mpr c11
              have c11b1 : (t140 != 1) = true := bne_iff_ne.mpr c11
              by_cases c12 : t140 = 2
              · rw [if_pos c12] at H
                have c12b0 : (t140 == 2) = true := beq_iff_eq.mpr c12
                have c12b1 : (t140 != 2) = false := bne_eq_false_iff_eq.mpr c12
                clear c12
                obtain rfl := Option.some.inj H
                have p139 : 0 ≤ (x11_1 : Int) := of_decide_eq_true (by first | (with_reducible assumption) | assumption)
                have q139 : x11_1 < (y136.length : Int) := of_decide_eq_true (by first | (with_reducible assumption) | assumption)
                obtain ⟨ad139, A139_0, c139_0, e139, hx139_0, hl139_0, hi139_0⟩ := at_L1 (Kd.N_reads' HO_9.out).2.2 x11_1 p139 q139
                cases e139
                obtain ⟨ce139, hce139, hMe139, hcc139⟩ := Kd.N_get HO_9.out [] x11_1 p139 (by first | exact q139 | exact of_decide_eq_true (by first | (with_reducible assumption) | assumption) | (have e_ := (Kd.N_reads' HO_9.out).1; omega))
                obtain ⟨ua139_0, uc139_0, rfl, ul139_0, ge139_0⟩ := Kd.FK_slice_open hMe139
                have hv139_0 := hcc139 0 _ rfl
                rw [Nat.add_zero, show ((Kd.slice 3 (Kd.int .i64))).sz = 1 from rfl, Nat.mul_one] at hv139_0
                replace hv139_0 := Option.some.inj (hv139_0.symm.trans hx139_0)
                injection hv139_0 with hva_ hvn_ hvc_
                rw [hva_] at ge139_0
                rw [hvc_] at ul139_0
                have HL139_0 := Aside0.mk (show Kd.V (Kd.int .i64) 3 _ w.heap.size _ _ (rd_L1 y136 x11_1) from Kd.V_mk ul139_0 ge139_0)
                clear hva_ hvn_ hvc_ ge139_0 ul139_0
                clear hcc139 hce139
                have HR139_0 := Aside0.mk hi139_0
                have HC139_0 := Aside0.mk hl139_0
                clear hi139_0 hl139_0
                replace p139 := eq_true p139
                replace q139 := eq_true q139
                go_wp2_with (first | ((with_reducible refine gate_callee (f := 40) rfl ?_); refine goesL_ (some 17) rfl rfl Try.func40 (by kernel_rfl) rfl #[.slice A139_0 (rd_L1 y136 x11_1).length c139_0] rfl (by (try simp only [List.map_toArray, List.map_cons, List.map_nil]); first | done | rfl | (simp only [List.length_drop, List.length_take]; rfl)) ?_; (with_reducible refine (conf_list.calls k1 _ _ (rd_L1 y136 x11_1) t140 _ ?side1 ?side2 A10.out).mono ?_); (case side1 => repeat (first | exact (by repeat (first | (with_reducible exact HR139_0.out) | (with_reducible refine Kd.C_alloc ?_ _) | (with_reducible refine Kd.C_drewN ?_ _) | (with_reducible refine Kd.C_drew ?_) | exact HR139_0.out)) | (with_reducible refine Kd.C_alloc ?_ _) | (with_reducible refine Kd.C_drewN ?_ _) | (with_reducible refine Kd.C_drew ?_))); (case side2 => exact HC139_0.out); rintro e w' ⟨rfl, ⟨nd, rfl⟩⟩; refine ⟨_, rfl, ?_⟩))
                go_ret
                exact ⟨by first | rfl | (simp [errW_none, errW_some] <;> rfl) | (simp [*, errW_none, errW_some] <;> rfl), by repeat (first | (with_reducible first | exact HB.out | apply below_alloc | apply pw_below_drewN | apply below_drew1 | refine below_set ?_ GE135.out) | exact HB.out)⟩
              · rw [if_neg c12] at H
                have c12b0 : (t140 == 2) = false := beq_eq_false_iff_ne.mpr c12
                have c12b1 : (t140 != 2) = true := bne_iff_ne.mpr c12
                by_cases c13 : t140 = 3
                · rw [if_pos c13] at H
                  have c13b0 : (t140 == 3) = true := beq_iff_eq.mpr c13
                  have c13b1 : (t140 != 3) = false := bne_eq_false_iff_eq.mpr c13
                  clear c13
                  by_cases c14 : x11_1 = 1
                  · rw [if_pos c14] at H
                    have c14b0 : (x11_1 == 1) = true := beq_iff_eq.mpr c14
                    have c14b1 : (x11_1 != 1) = false := bne_eq_false_iff_eq.mpr c14
                    clear c14
                    obtain rfl := Option.some.inj H
                    have p139 : 0 ≤ (x11_1 : Int) := of_decide_eq_true (by first | (with_reducible assumption) | assumption)
                    have q139 : x11_1 < (y136.length : Int) := of_decide_eq_true (by first | (with_reducible assumption) | assumption)
                    obtain ⟨ad139, A139_0, c139_0, e139, hx139_0, hl139_0, hi139_0⟩ := at_L1 (Kd.N_reads' HO_9.out).2.2 x11_1 p139 q139
                    cases e139
                    obtain ⟨ce139, hce139, hMe139, hcc139⟩ := Kd.N_get HO_9.out [] x11_1 p139 (by first | exact q139 | exact of_decide_eq_true (by first | (with_reducible assumption) | assumption) | (have e_ := (Kd.N_reads' HO_9.out).1; omega))
                    obtain ⟨ua139_0, uc139_0, rfl, ul139_0, ge139_0⟩ := Kd.FK_slice_open hMe139
                    have hv139_0 := hcc139 0 _ rfl
                    rw [Nat.add_zero, show ((Kd.slice 3 (Kd.int .i64))).sz = 1 from rfl, Nat.mul_one] at hv139_0
                    replace hv139_0 := Option.some.inj (hv139_0.symm.trans hx139_0)
                    injection hv139_0 with hva_ hvn_ hvc_
                    rw [hva_] at ge139_0
                    rw [hvc_] at ul139_0
                    have HL139_0 := Aside0.mk (show Kd.V (Kd.int .i64) 3 _ w.heap.size _ _ (rd_L1 y136 x11_1) from Kd.V_mk ul139_0 ge139_0)
                    clear hva_ hvn_ hvc_ ge139_0 ul139_0
                    clear hcc139 hce139
                    have HR139_0 := Aside0.mk hi139_0
                    have HC139_0 := Aside0.mk hl139_0
                    clear hi139_0 hl139_0
                    replace p139 := eq_true p139
                    replace q139 := eq_true q139
                    go_wp2_with (first | ((with_reducible refine gate_callee (f := 40) rfl ?_); refine goesL_ (some 17) rfl rfl Try.func40 (by kernel_rfl) rfl #[.slice A139_0 (rd_L1 y136 x11_1).length c139_0] rfl (by (try simp only [List.map_toArray, List.map_cons, List.map_nil]); first | done | rfl | (simp only [List.length_drop, List.length_take]; rfl)) ?_; (with_reducible refine (conf_list.calls k1 _ _ (rd_L1 y136 x11_1) t140 _ ?side1 ?side2 A10.out).mono ?_); (case side1 => repeat (first | exact (by repeat (first | (with_reducible exact HR139_0.out) | (with_reducible refine Kd.C_alloc ?_ _) | (with_reducible refine Kd.C_drewN ?_ _) | (with_reducible refine Kd.C_drew ?_) | exact HR139_0.out)) | (with_reducible refine Kd.C_alloc ?_ _) | (with_reducible refine Kd.C_drewN ?_ _) | (with_reducible refine Kd.C_drew ?_))); (case side2 => exact HC139_0.out); rintro e w' ⟨rfl, ⟨nd, rfl⟩⟩; refine ⟨_, rfl, ?_⟩))
                    go_ret
                    exact ⟨by first | rfl | (simp [errW_none, errW_some] <;> rfl) | (simp [*, errW_none, errW_some] <;> rfl), by repeat (first | (with_reducible first | exact HB.out | apply below_alloc | apply pw_below_drewN | apply below_drew1 | refine below_set ?_ GE135.out) | exact HB.out)⟩
                  · rw [if_neg c14] at H
                    have c14b0 : (x11_1 == 1) = false := beq_eq_false_iff_ne.mpr c14
                    have c14b1 : (x11_1 != 1) = true := bne_iff_ne.mpr c14
                    have H' := Aside0.mk H
                    clear H
                    have p139 : 0 ≤ (x11_1 : Int) := of_decide_eq_true (by first | (with_reducible assumption) | assumption)
                    have q139 : x11_1 < (y136.length : Int) := of_decide_eq_true (by first | (with_reducible assumption) | assumption)
                    obtain ⟨ad139, A139_0, c139_0, e139, hx139_0, hl139_0, hi139_0⟩ := at_L1 (Kd.N_reads' HO_9.out).2.2 x11_1 p139 q139
                    cases e139
                    obtain ⟨ce139, hce139, hMe139, hcc139⟩ := Kd.N_get HO_9.out [] x11_1 p139 (by first | exact q139 | exact of_decide_eq_true (by first | (with_reducible assumption) | assumption) | (have e_ := (Kd.N_reads' HO_9.out).1; omega))
                    obtain ⟨ua139_0, uc139_0, rfl, ul139_0, ge139_0⟩ := Kd.FK_slice_open hMe139
                    have hv139_0 := hcc139 0 _ rfl
                    rw [Nat.add_zero, show ((Kd.slice 3 (Kd.int .i64))).sz = 1 from rfl, Nat.mul_one] at hv139_0
                    replace hv139_0 := Option.some.inj (hv139_0.symm.trans hx139_0)
                    injection hv139_0 with hva_ hvn_ hvc_
                    rw [hva_] at ge139_0
                    rw [hvc_] at ul139_0
                    have HL139_0 := Aside0.mk (show Kd.V (Kd.int .i64) 3 _ w.heap.size _ _ (rd_L1 y136 x11_1) from Kd.V_mk ul139_0 ge139_0)
                    clear hva_ hvn_ hvc_ ge139_0 ul139_0
                    clear hcc139 hce139
                    have HR139_0 := Aside0.mk hi139_0
                    have HC139_0 := Aside0.mk hl139_0
                    clear hi139_0 hl139_0
                    replace p139 := eq_true p139
                    replace q139 := eq_true q139
                    go_wp2_with (first | ((with_reducible refine gate_callee (f := 40) rfl ?_); refine goesL_ (some 17) rfl rfl Try.func40 (by kernel_rfl) rfl #[.slice A139_0 (rd_L1 y136 x11_1).length c139_0] rfl (by (try simp only [List.map_toArray, List.map_cons, List.map_nil]); first | done | rfl | (simp only [List.length_drop, List.length_take]; rfl)) ?_; (with_reducible refine (conf_list.calls k1 _ _ (rd_L1 y136 x11_1) t140 _ ?side1 ?side2 A10.out).mono ?_); (case side1 => repeat (first | exact (by repeat (first | (with_reducible exact HR139_0.out) | (with_reducible refine Kd.C_alloc ?_ _) | (with_reducible refine Kd.C_drewN ?_ _) | (with_reducible refine Kd.C_drew ?_) | exact HR139_0.out)) | (with_reducible refine Kd.C_alloc ?_ _) | (with_reducible refine Kd.C_drewN ?_ _) | (with_reducible refine Kd.C_drew ?_))); (case side2 => exact HC139_0.out); rintro e w' ⟨rfl, ⟨nd, rfl⟩⟩; refine ⟨_, rfl, ?_⟩))
                    go_roundg k1
                    case measure => have := HK1.out; omega
                    case rel => exact ⟨(wrap64 (x11_1 + 1)), (by first | rfl | (simp; done) | (simp [*]; done)), H', ⟨by have := HK1.out; omega⟩, ⟨by (with_reducible repeat (first | apply Kd.N_alloc | apply Kd.N_drewN | apply Kd.N_drew)); exact HO_9.out⟩, ⟨by (with_reducible repeat (first | apply Kd.V_alloc | apply Kd.V_drewN | apply Kd.V_drew)); exact HO_136000.out⟩, ⟨by (with_reducible repeat (first | apply Kd.V_alloc | apply Kd.V_drewN | apply Kd.V_drew)); exact HO_136001.out⟩, ⟨by (with_reducible repeat (first | refine blk_drewN ?_ _ | refine blk_drew ?_ | refine blk_alloc ?_ _)); exact BK135.out⟩, ⟨by repeat (first | (with_reducible first | exact HB.out | apply below_alloc | apply pw_below_drewN | apply below_drew1 | refine below_set ?_ GE135.out) | exact HB.out)⟩⟩
                · rw [if_neg c13] at H
                  have c13b0 : (t140 == 3) = false := beq_eq_false_iff_ne.mpr c13
                  have c13b1 : (t140 != 3) = true := bne_iff_ne.mpr c13
                  have H' := Aside0.mk H
                  clear H
                  have p139 : 0 ≤ (x11_1 : Int) := of_decide_eq_true (by first | (with_reducible assumption) | assumption)
                  have q139 : x11_1 < (y136.length : Int) := of_decide_eq_true (by first | (with_reducible assumption) | assumption)
                  obtain ⟨ad139, A139_0, c139_0, e139, hx139_0, hl139_0, hi139_0⟩ := at_L1 (Kd.N_reads' HO_9.out).2.2 x11_1 p139 q139
                  cases e139
                  obtain ⟨ce139, hce139, hMe139, hcc139⟩ := Kd.N_get HO_9.out [] x11_1 p139 (by first | exact q139 | exact of_decide_eq_true (by first | (with_reducible assumption) | assumption) | (have e_ := (Kd.N_reads' HO_9.out).1; omega))
                  obtain ⟨ua139_0, uc139_0, rfl, ul139_0, ge139_0⟩ := Kd.FK_slice_open hMe139
                  have hv139_0 := hcc139 0 _ rfl
                  rw [Nat.add_zero, show ((Kd.slice 3 (Kd.int .i64))).sz = 1 from rfl, Nat.mul_one] at hv139_0
                  replace hv139_0 := Option.some.inj (hv139_0.symm.trans hx139_0)
                  injection hv139_0 with hva_ hvn_ hvc_
                  rw [hva_] at ge139_0
                  rw [hvc_] at ul139_0
                  have HL139_0 := Aside0.mk (show Kd.V (Kd.int .i64) 3 _ w.heap.size _ _ (rd_L1 y136 x11_1) from Kd.V_mk ul139_0 ge139_0)
                  clear hva_ hvn_ hvc_ ge139_0 ul139_0
                  clear hcc139 hce139
                  have HR139_0 := Aside0.mk hi139_0
                  have HC139_0 := Aside0.mk hl139_0
                  clear hi139_0 hl139_0
                  replace p139 := eq_true p139
                  replace q139 := eq_true q139
                  go_wp2_with (first | ((with_reducible refine gate_callee (f := 40) rfl ?_); refine goesL_ (some 17) rfl rfl Try.func40 (by kernel_rfl) rfl #[.slice A139_0 (rd_L1 y136 x11_1).length c139_0] rfl (by (try simp only [List.map_toArray, List.map_cons, List.map_nil]); first | done | rfl | (simp only [List.length_drop, List.length_take]; rfl)) ?_; (with_reducible refine (conf_list.calls k1 _ _ (rd_L1 y136 x11_1) t140 _ ?side1 ?side2 A10.out).mono ?_); (case side1 => repeat (first | exact (by repeat (first | (with_reducible exact HR139_0.out) | (with_reducible refine Kd.C_alloc ?_ _) | (with_reducible refine Kd.C_drewN ?_ _) | (with_reducible refine Kd.C_drew ?_) | exact HR139_0.out)) | (with_reducible refine Kd.C_alloc ?_ _) | (with_reducible refine Kd.C_drewN ?_ _) | (with_reducible refine Kd.C_drew ?_))); (case side2 => exact HC139_0.out); rintro e w' ⟨rfl, ⟨nd, rfl⟩⟩; refine ⟨_, rfl, ?_⟩))
                  go_roundg k1
                  case measure => have := HK1.out; omega
                  case rel => exact ⟨(wrap64 (x11_1 + 1)), (by first | rfl | (simp; done) | (simp [*]; done)), H', ⟨by have := HK1.out; omega⟩, ⟨by (with_reducible repeat (first | apply Kd.N_alloc | apply Kd.N_drewN | apply Kd.N_drew)); exact HO_9.out⟩, ⟨by (with_reducible repeat (first | apply Kd.V_alloc | apply Kd.V_drewN | apply Kd.V_drew)); exact HO_136000.out⟩, ⟨by (with_reducible repeat (first | apply Kd.V_alloc | apply Kd.V_drewN | apply Kd.V_drew)); exact HO_136001.out⟩, ⟨by (with_reducible repeat (first | refine blk_drewN ?_ _ | refine blk_drew ?_ | refine blk_alloc ?_ _)); exact BK135.out⟩, ⟨by repeat (first | (with_reducible first | exact HB.out | apply below_alloc | apply pw_below_drewN | apply below_drew1 | refine below_set ?_ GE135.out) | exact HB.out)⟩⟩
          · rw [if_neg c9] at H
            exact absurd H (by simp)
        · rw [if_neg c8] at H
          exact absurd H (by simp)
      · rw [if_neg c7] at H
        have c7b0 : decide (x11_1 < (y136.length : Int)) = false := decide_eq_false c7
        clear c7
        obtain rfl := Option.some.inj H
        go_wp2
        go_ret
        exact ⟨by first | rfl | (simp [errW_none, errW_some] <;> rfl) | (simp [*, errW_none, errW_some] <;> rfl), by repeat (first | (with_reducible first | exact HB.out | apply below_alloc | apply pw_below_drewN | apply below_drew1 | refine below_set ?_ GE135.out) | exact HB.out)⟩

/-! ### synodallaw8_ConfChecks: function 7 -/
mutual
def synodallaw8_ConfChecks.j0 : Nat → Bool → List Int → Int → Option (Bool)
  | 0, _, _, _ => none
  | k + 1, x3, x9, x10 => if (x9.length : Int) > 7 then (synodallaw8_ConfChecks.j1 k x3 x9 4) else (synodallaw8_ConfChecks.j1 k x3 x9 x10)
def synodallaw8_ConfChecks.j1 : Nat → Bool → List Int → Int → Option (Bool)
  | 0, _, _, _ => none
  | k + 1, x3, x9, x10 => if x3 = true then ((some (([0] : List Int) : List Int)).bind fun y170 => (if x10 = 2 then ((conf_Check.f k x9 y170).bind fun t174 => (if t174 = 0 then ((conf_Joint.f x9 y170).bind fun t175 => (some (!t175))) else (some false))) else ((conf_Check.f k x9 y170).bind fun t176 => (some (t176 == x10))))) else ((conf_Check.f k ([] : List Int) x9).bind fun t177 => (some (t177 == x10)))
end
def synodallaw8_ConfChecks.f (k : Nat) (a0 : Int) (a1 : Int) (a2 : Int) (a3 : Bool) : Option (Bool) := (synodallaw8_known.f k).bind fun t141 => (if t141 = true then ((synodallaw8_within.f a2 50).bind fun t142 => ((some (([] : List Int) : List Int)).bind fun y143 => ((synodallaw8_Plain.f k a0).bind fun bt146 => (if y143.length + bt146.2.length < 17592186044416 then ((some (y143 ++ bt146.2 : List Int)).bind fun y152 => ((synodallaw8_within.f a1 5).bind fun t155 => (if t155 = 0 then (if 0 ≤ (wrap64 ((y152.length : Int) - 1)) then (if (wrap64 ((y152.length : Int) - 1)) < (y152.length : Int) then (if y152.length < 17592186044416 then (synodallaw8_ConfChecks.j0 k a3 (y152 ++ [rd y152 (wrap64 ((y152.length : Int) - 1))]) 1) else (none)) else (none)) else (none)) else (if t155 = 1 then (if 0 ≤ (wrap64 ((y152.length : Int) - 1)) then (if (wrap64 ((y152.length : Int) - 1)) ≤ (y152.length : Int) then ((some (y152.take ((wrap64 ((y152.length : Int) - 1)) : Int).toNat : List Int)).bind fun y160 => (if y160.length < 17592186044416 then (synodallaw8_ConfChecks.j0 k a3 (y160 ++ [wrap64 (8 + (wrap64 (1 + t142)))]) 1) else (none))) else (none)) else (none)) else (if t155 = 2 then (if 0 < (y152.length : Int) then (synodallaw8_ConfChecks.j0 k a3 (y152.set (0 : Int).toNat (wrap64 (-(wrap64 (1 + t142))))) 1) else (none)) else (if t155 = 3 then (synodallaw8_ConfChecks.j0 k a3 (([0, 1, 2, 3, 4, 5, 6, 7] : List Int)) 4) else (if t155 = 4 then (synodallaw8_ConfChecks.j0 k a3 ([] : List Int) 2) else (synodallaw8_ConfChecks.j0 k a3 y152 1)))))))) else (none))))) else (some false))
theorem synodallaw8_ConfChecks.mono_l : ∀ k, (∀ y0 y1 y2, LeO (synodallaw8_ConfChecks.j0 k y0 y1 y2) (synodallaw8_ConfChecks.j0 (k + 1) y0 y1 y2)) ∧ (∀ y0 y1 y2, LeO (synodallaw8_ConfChecks.j1 k y0 y1 y2) (synodallaw8_ConfChecks.j1 (k + 1) y0 y1 y2))
  | 0 => ⟨fun _ _ _ r h => by simp [synodallaw8_ConfChecks.j0] at h, fun _ _ _ r h => by simp [synodallaw8_ConfChecks.j1] at h⟩
  | k + 1 => by
    obtain ⟨ih0, ih1⟩ := synodallaw8_ConfChecks.mono_l k
    refine ⟨?_, ?_⟩
    · intro y0 y1 y2
      unfold synodallaw8_ConfChecks.j0
      repeat' first
      | (with_reducible exact ih0 _ _ _)
      | (with_reducible exact ih1 _ _ _)
      | (with_reducible exact conf_Check.mono _ _ _)
      | (with_reducible exact synodallaw8_Plain.mono _ _)
      | (with_reducible exact synodallaw8_known.mono _)
      | (with_reducible exact LeO.refl _)
      | (with_reducible exact LeO.none _)
      | (with_reducible refine LeO.ite ?_ ?_)
      | (with_reducible refine LeO.bind ?_ (fun _ => ?_))
      | exact ih0 _ _ _
      | exact ih1 _ _ _
      | exact conf_Check.mono _ _ _
      | exact synodallaw8_Plain.mono _ _
      | exact synodallaw8_known.mono _
      | exact LeO.none _
      | refine LeO.ite ?_ ?_
      | refine LeO.bind ?_ (fun _ => ?_)
    · intro y0 y1 y2
      unfold synodallaw8_ConfChecks.j1
      repeat' first
      | (with_reducible exact ih0 _ _ _)
      | (with_reducible exact ih1 _ _ _)
      | (with_reducible exact conf_Check.mono _ _ _)
      | (with_reducible exact synodallaw8_Plain.mono _ _)
      | (with_reducible exact synodallaw8_known.mono _)
      | (with_reducible exact LeO.refl _)
      | (with_reducible exact LeO.none _)
      | (with_reducible refine LeO.ite ?_ ?_)
      | (with_reducible refine LeO.bind ?_ (fun _ => ?_))
      | exact ih0 _ _ _
      | exact ih1 _ _ _
      | exact conf_Check.mono _ _ _
      | exact synodallaw8_Plain.mono _ _
      | exact synodallaw8_known.mono _
      | exact LeO.none _
      | refine LeO.ite ?_ ?_
      | refine LeO.bind ?_ (fun _ => ?_)
theorem synodallaw8_ConfChecks.mono : ∀ a0 a1 a2 a3 k, LeO (synodallaw8_ConfChecks.f k a0 a1 a2 a3) (synodallaw8_ConfChecks.f (k + 1) a0 a1 a2 a3) := by
  intro a0 a1 a2 a3 k
  obtain ⟨ih0, ih1⟩ := synodallaw8_ConfChecks.mono_l k
  unfold synodallaw8_ConfChecks.f
  repeat' first
      | (with_reducible exact ih0 _ _ _)
      | (with_reducible exact ih1 _ _ _)
      | (with_reducible exact conf_Check.mono _ _ _)
      | (with_reducible exact synodallaw8_Plain.mono _ _)
      | (with_reducible exact synodallaw8_known.mono _)
      | (with_reducible exact LeO.refl _)
      | (with_reducible exact LeO.none _)
      | (with_reducible refine LeO.ite ?_ ?_)
      | (with_reducible refine LeO.bind ?_ (fun _ => ?_))
      | exact ih0 _ _ _
      | exact ih1 _ _ _
      | exact conf_Check.mono _ _ _
      | exact synodallaw8_Plain.mono _ _
      | exact synodallaw8_known.mono _
      | exact LeO.none _
      | refine LeO.ite ?_ ?_
      | refine LeO.bind ?_ (fun _ => ?_)
set_option maxHeartbeats 8000000 in
set_option maxRecDepth 100000 in
theorem synodallaw8_ConfChecks.calls (k : Nat) (a0 : Int) (a1 : Int) (a2 : Int) (a3 : Bool) (r : Bool) (w : World) (h : synodallaw8_ConfChecks.f k a0 a1 a2 a3 = some r) :
    Calls Try.prog 7 #[.int .i64 a0, .int .i64 a1, .int .i64 a2, .bool a3] w fun e w' => e = .returned (.bool r) ∧ Below w.heap.size w w' := by
  have hu42 := Try.underlying42
  have hfd42_1 : ∀ (a0_ a1_ : Value) (W_ : World), (Instr.field 42 (.agg #[a0_, a1_]) 1).run Try.prog W_ = .ok a1_ W_ := fun _ _ _ => by first | rfl | (intros; rfl)
  have HB := Aside0.mk (Below.refl w.heap.size w)
  have H : ((synodallaw8_known.f k).bind fun t141 => (if t141 = true then ((synodallaw8_within.f a2 50).bind fun t142 => ((some (([] : List Int) : List Int)).bind fun y143 => ((synodallaw8_Plain.f k a0).bind fun bt146 => (if y143.length + bt146.2.length < 17592186044416 then ((some (y143 ++ bt146.2 : List Int)).bind fun y152 => ((synodallaw8_within.f a1 5).bind fun t155 => (if t155 = 0 then (if 0 ≤ (wrap64 ((y152.length : Int) - 1)) then (if (wrap64 ((y152.length : Int) - 1)) < (y152.length : Int) then (if y152.length < 17592186044416 then (synodallaw8_ConfChecks.j0 k a3 (y152 ++ [rd y152 (wrap64 ((y152.length : Int) - 1))]) 1) else (none)) else (none)) else (none)) else (if t155 = 1 then (if 0 ≤ (wrap64 ((y152.length : Int) - 1)) then (if (wrap64 ((y152.length : Int) - 1)) ≤ (y152.length : Int) then ((some (y152.take ((wrap64 ((y152.length : Int) - 1)) : Int).toNat : List Int)).bind fun y160 => (if y160.length < 17592186044416 then (synodallaw8_ConfChecks.j0 k a3 (y160 ++ [wrap64 (8 + (wrap64 (1 + t142)))]) 1) else (none))) else (none)) else (none)) else (if t155 = 2 then (if 0 < (y152.length : Int) then (synodallaw8_ConfChecks.j0 k a3 (y152.set (0 : Int).toNat (wrap64 (-(wrap64 (1 + t142))))) 1) else (none)) else (if t155 = 3 then (synodallaw8_ConfChecks.j0 k a3 (([0, 1, 2, 3, 4, 5, 6, 7] : List Int)) 4) else (if t155 = 4 then (synodallaw8_ConfChecks.j0 k a3 ([] : List Int) 2) else (synodallaw8_ConfChecks.j0 k a3 y152 1)))))))) else (none))))) else (some false))) = some r := h
  clear h
  replace H := Option.bind_eq_some_iff.mp H
  obtain ⟨t141, A50, H⟩ := H
  replace H : (if t141 = true then ((synodallaw8_within.f a2 50).bind fun t142 => ((some (([] : List Int) : List Int)).bind fun y143 => ((synodallaw8_Plain.f k a0).bind fun bt146 => (if y143.length + bt146.2.length < 17592186044416 then ((some (y143 ++ bt146.2 : List Int)).bind fun y152 => ((synodallaw8_within.f a1 5).bind fun t155 => (if t155 = 0 then (if 0 ≤ (wrap64 ((y152.length : Int) - 1)) then (if (wrap64 ((y152.length : Int) - 1)) < (y152.length : Int) then (if y152.length < 17592186044416 then (synodallaw8_ConfChecks.j0 k a3 (y152 ++ [rd y152 (wrap64 ((y152.length : Int) - 1))]) 1) else (none)) else (none)) else (none)) else (if t155 = 1 then (if 0 ≤ (wrap64 ((y152.length : Int) - 1)) then (if (wrap64 ((y152.length : Int) - 1)) ≤ (y152.length : Int) then ((some (y152.take ((wrap64 ((y152.length : Int) - 1)) : Int).toNat : List Int)).bind fun y160 => (if y160.length < 17592186044416 then (synodallaw8_ConfChecks.j0 k a3 (y160 ++ [wrap64 (8 + (wrap64 (1 + t142)))]) 1) else (none))) else (none)) else (none)) else (if t155 = 2 then (if 0 < (y152.length : Int) then (synodallaw8_ConfChecks.j0 k a3 (y152.set (0 : Int).toNat (wrap64 (-(wrap64 (1 + t142))))) 1) else (none)) else (if t155 = 3 then (synodallaw8_ConfChecks.j0 k a3 (([0, 1, 2, 3, 4, 5, 6, 7] : List Int)) 4) else (if t155 = 4 then (synodallaw8_ConfChecks.j0 k a3 ([] : List Int) 2) else (synodallaw8_ConfChecks.j0 k a3 y152 1)))))))) else (none))))) else (some false)) = some r := H
  have A5 := Aside0.mk A50
  clear A50
  by_cases c6 : t141 = true
  · subst c6
    have H1 : ((synodallaw8_within.f a2 50).bind fun t142 => ((some (([] : List Int) : List Int)).bind fun y143 => ((synodallaw8_Plain.f k a0).bind fun bt146 => (if y143.length + bt146.2.length < 17592186044416 then ((some (y143 ++ bt146.2 : List Int)).bind fun y152 => ((synodallaw8_within.f a1 5).bind fun t155 => (if t155 = 0 then (if 0 ≤ (wrap64 ((y152.length : Int) - 1)) then (if (wrap64 ((y152.length : Int) - 1)) < (y152.length : Int) then (if y152.length < 17592186044416 then (synodallaw8_ConfChecks.j0 k a3 (y152 ++ [rd y152 (wrap64 ((y152.length : Int) - 1))]) 1) else (none)) else (none)) else (none)) else (if t155 = 1 then (if 0 ≤ (wrap64 ((y152.length : Int) - 1)) then (if (wrap64 ((y152.length : Int) - 1)) ≤ (y152.length : Int) then ((some (y152.take ((wrap64 ((y152.length : Int) - 1)) : Int).toNat : List Int)).bind fun y160 => (if y160.length < 17592186044416 then (synodallaw8_ConfChecks.j0 k a3 (y160 ++ [wrap64 (8 + (wrap64 (1 + t142)))]) 1) else (none))) else (none)) else (none)) else (if t155 = 2 then (if 0 < (y152.length : Int) then (synodallaw8_ConfChecks.j0 k a3 (y152.set (0 : Int).toNat (wrap64 (-(wrap64 (1 + t142))))) 1) else (none)) else (if t155 = 3 then (synodallaw8_ConfChecks.j0 k a3 (([0, 1, 2, 3, 4, 5, 6, 7] : List Int)) 4) else (if t155 = 4 then (synodallaw8_ConfChecks.j0 k a3 ([] : List Int) 2) else (synodallaw8_ConfChecks.j0 k a3 y152 1)))))))) else (none))))) = some r := by rw [if_pos rfl] at H; exact H
    clear H
    have H := H1
    clear H1
    replace H := Option.bind_eq_some_iff.mp H
    obtain ⟨t142, A70, H⟩ := H
    replace H : ((some (([] : List Int) : List Int)).bind fun y143 => ((synodallaw8_Plain.f k a0).bind fun bt146 => (if y143.length + bt146.2.length < 17592186044416 then ((some (y143 ++ bt146.2 : List Int)).bind fun y152 => ((synodallaw8_within.f a1 5).bind fun t155 => (if t155 = 0 then (if 0 ≤ (wrap64 ((y152.length : Int) - 1)) then (if (wrap64 ((y152.length : Int) - 1)) < (y152.length : Int) then (if y152.length < 17592186044416 then (synodallaw8_ConfChecks.j0 k a3 (y152 ++ [rd y152 (wrap64 ((y152.length : Int) - 1))]) 1) else (none)) else (none)) else (none)) else (if t155 = 1 then (if 0 ≤ (wrap64 ((y152.length : Int) - 1)) then (if (wrap64 ((y152.length : Int) - 1)) ≤ (y152.length : Int) then ((some (y152.take ((wrap64 ((y152.length : Int) - 1)) : Int).toNat : List Int)).bind fun y160 => (if y160.length < 17592186044416 then (synodallaw8_ConfChecks.j0 k a3 (y160 ++ [wrap64 (8 + (wrap64 (1 + t142)))]) 1) else (none))) else (none)) else (none)) else (if t155 = 2 then (if 0 < (y152.length : Int) then (synodallaw8_ConfChecks.j0 k a3 (y152.set (0 : Int).toNat (wrap64 (-(wrap64 (1 + t142))))) 1) else (none)) else (if t155 = 3 then (synodallaw8_ConfChecks.j0 k a3 (([0, 1, 2, 3, 4, 5, 6, 7] : List Int)) 4) else (if t155 = 4 then (synodallaw8_ConfChecks.j0 k a3 ([] : List Int) 2) else (synodallaw8_ConfChecks.j0 k a3 y152 1)))))))) else (none)))) = some r := H
    have A7 := Aside0.mk A70
    clear A70
    obtain ⟨y143, hy143⟩ : ∃ y_ : List Int, y_ = (([] : List Int)) := ⟨_, rfl⟩
    replace H : ((synodallaw8_Plain.f k a0).bind fun bt146 => (if y143.length + bt146.2.length < 17592186044416 then ((some (y143 ++ bt146.2 : List Int)).bind fun y152 => ((synodallaw8_within.f a1 5).bind fun t155 => (if t155 = 0 then (if 0 ≤ (wrap64 ((y152.length : Int) - 1)) then (if (wrap64 ((y152.length : Int) - 1)) < (y152.length : Int) then (if y152.length < 17592186044416 then (synodallaw8_ConfChecks.j0 k a3 (y152 ++ [rd y152 (wrap64 ((y152.length : Int) - 1))]) 1) else (none)) else (none)) else (none)) else (if t155 = 1 then (if 0 ≤ (wrap64 ((y152.length : Int) - 1)) then (if (wrap64 ((y152.length : Int) - 1)) ≤ (y152.length : Int) then ((some (y152.take ((wrap64 ((y152.length : Int) - 1)) : Int).toNat : List Int)).bind fun y160 => (if y160.length < 17592186044416 then (synodallaw8_ConfChecks.j0 k a3 (y160 ++ [wrap64 (8 + (wrap64 (1 + t142)))]) 1) else (none))) else (none)) else (none)) else (if t155 = 2 then (if 0 < (y152.length : Int) then (synodallaw8_ConfChecks.j0 k a3 (y152.set (0 : Int).toNat (wrap64 (-(wrap64 (1 + t142))))) 1) else (none)) else (if t155 = 3 then (synodallaw8_ConfChecks.j0 k a3 (([0, 1, 2, 3, 4, 5, 6, 7] : List Int)) 4) else (if t155 = 4 then (synodallaw8_ConfChecks.j0 k a3 ([] : List Int) 2) else (synodallaw8_ConfChecks.j0 k a3 y152 1)))))))) else (none))) = some r := by first | (rw [hy143]; with_reducible exact H) | (have H2_ := (Option.bind_some _ _).symm.trans H; rw [hy143]; with_reducible exact H2_) | (have H2_ := (Option.bind_some _ _).symm.trans H; with_reducible exact H2_) | with_reducible exact H | (rw [hy143]; exact H) | exact H
    have Ny143 := Aside0.mk hy143
    clear hy143
    replace H := Option.bind_eq_some_iff.mp H
    obtain ⟨⟨t146, t149⟩, A80, H⟩ := H
    replace H : (if y143.length + t149.length < 17592186044416 then ((some (y143 ++ t149 : List Int)).bind fun y152 => ((synodallaw8_within.f a1 5).bind fun t155 => (if t155 = 0 then (if 0 ≤ (wrap64 ((y152.length : Int) - 1)) then (if (wrap64 ((y152.length : Int) - 1)) < (y152.length : Int) then (if y152.length < 17592186044416 then (synodallaw8_ConfChecks.j0 k a3 (y152 ++ [rd y152 (wrap64 ((y152.length : Int) - 1))]) 1) else (none)) else (none)) else (none)) else (if t155 = 1 then (if 0 ≤ (wrap64 ((y152.length : Int) - 1)) then (if (wrap64 ((y152.length : Int) - 1)) ≤ (y152.length : Int) then ((some (y152.take ((wrap64 ((y152.length : Int) - 1)) : Int).toNat : List Int)).bind fun y160 => (if y160.length < 17592186044416 then (synodallaw8_ConfChecks.j0 k a3 (y160 ++ [wrap64 (8 + (wrap64 (1 + t142)))]) 1) else (none))) else (none)) else (none)) else (if t155 = 2 then (if 0 < (y152.length : Int) then (synodallaw8_ConfChecks.j0 k a3 (y152.set (0 : Int).toNat (wrap64 (-(wrap64 (1 + t142))))) 1) else (none)) else (if t155 = 3 then (synodallaw8_ConfChecks.j0 k a3 (([0, 1, 2, 3, 4, 5, 6, 7] : List Int)) 4) else (if t155 = 4 then (synodallaw8_ConfChecks.j0 k a3 ([] : List Int) 2) else (synodallaw8_ConfChecks.j0 k a3 y152 1)))))))) else (none)) = some r := H
    have A8 := Aside0.mk A80
    clear A80
    by_cases c9 : y143.length + t149.length < 17592186044416
    · rw [if_pos c9] at H
      have LMc9 := Aside0.mk c9
      clear c9
      obtain ⟨y152, hy152⟩ : ∃ y_ : List Int, y_ = (y143 ++ t149) := ⟨_, rfl⟩
      replace H : ((synodallaw8_within.f a1 5).bind fun t155 => (if t155 = 0 then (if 0 ≤ (wrap64 ((y152.length : Int) - 1)) then (if (wrap64 ((y152.length : Int) - 1)) < (y152.length : Int) then (if y152.length < 17592186044416 then (synodallaw8_ConfChecks.j0 k a3 (y152 ++ [rd y152 (wrap64 ((y152.length : Int) - 1))]) 1) else (none)) else (none)) else (none)) else (if t155 = 1 then (if 0 ≤ (wrap64 ((y152.length : Int) - 1)) then (if (wrap64 ((y152.length : Int) - 1)) ≤ (y152.length : Int) then ((some (y152.take ((wrap64 ((y152.length : Int) - 1)) : Int).toNat : List Int)).bind fun y160 => (if y160.length < 17592186044416 then (synodallaw8_ConfChecks.j0 k a3 (y160 ++ [wrap64 (8 + (wrap64 (1 + t142)))]) 1) else (none))) else (none)) else (none)) else (if t155 = 2 then (if 0 < (y152.length : Int) then (synodallaw8_ConfChecks.j0 k a3 (y152.set (0 : Int).toNat (wrap64 (-(wrap64 (1 + t142))))) 1) else (none)) else (if t155 = 3 then (synodallaw8_ConfChecks.j0 k a3 (([0, 1, 2, 3, 4, 5, 6, 7] : List Int)) 4) else (if t155 = 4 then (synodallaw8_ConfChecks.j0 k a3 ([] : List Int) 2) else (synodallaw8_ConfChecks.j0 k a3 y152 1))))))) = some r := by first | (rw [hy152]; with_reducible exact H) | (have H2_ := (Option.bind_some _ _).symm.trans H; rw [hy152]; with_reducible exact H2_) | (have H2_ := (Option.bind_some _ _).symm.trans H; with_reducible exact H2_) | with_reducible exact H | (rw [hy152]; exact H) | exact H
      have Ny152 := Aside0.mk hy152
      clear hy152
      replace H := Option.bind_eq_some_iff.mp H
      obtain ⟨t155, A100, H⟩ := H
      replace H : (if t155 = 0 then (if 0 ≤ (wrap64 ((y152.length : Int) - 1)) then (if (wrap64 ((y152.length : Int) - 1)) < (y152.length : Int) then (if y152.length < 17592186044416 then (synodallaw8_ConfChecks.j0 k a3 (y152 ++ [rd y152 (wrap64 ((y152.length : Int) - 1))]) 1) else (none)) else (none)) else (none)) else (if t155 = 1 then (if 0 ≤ (wrap64 ((y152.length : Int) - 1)) then (if (wrap64 ((y152.length : Int) - 1)) ≤ (y152.length : Int) then ((some (y152.take ((wrap64 ((y152.length : Int) - 1)) : Int).toNat : List Int)).bind fun y160 => (if y160.length < 17592186044416 then (synodallaw8_ConfChecks.j0 k a3 (y160 ++ [wrap64 (8 + (wrap64 (1 + t142)))]) 1) else (none))) else (none)) else (none)) else (if t155 = 2 then (if 0 < (y152.length : Int) then (synodallaw8_ConfChecks.j0 k a3 (y152.set (0 : Int).toNat (wrap64 (-(wrap64 (1 + t142))))) 1) else (none)) else (if t155 = 3 then (synodallaw8_ConfChecks.j0 k a3 (([0, 1, 2, 3, 4, 5, 6, 7] : List Int)) 4) else (if t155 = 4 then (synodallaw8_ConfChecks.j0 k a3 ([] : List Int) 2) else (synodallaw8_ConfChecks.j0 k a3 y152 1)))))) = some r := H
      have A10 := Aside0.mk A100
      clear A100
      have HC11 := Aside0.mk H
      clear H
      go_enter Try.func7, Try.ntmps7
      go_upto_block 0 with (first | ((with_reducible refine gate_callee (f := 20) rfl ?_); refine goesL_ (some 12) rfl rfl Try.func20 (by kernel_rfl) rfl #[] rfl (by (try simp only [List.map_toArray, List.map_cons, List.map_nil]); first | done | rfl | (simp only [List.length_drop, List.length_take]; rfl)) ?_; (with_reducible refine (synodallaw8_known.calls k  true _ A5.out).mono ?_); rintro e w12 ⟨rfl, hb⟩; refine ⟨_, rfl, ?_⟩; have n0_ := Aside0.mk (below_step (by repeat (first | (with_reducible first | exact HB.out | apply below_alloc | apply pw_below_drewN | apply below_drew1) | exact HB.out)) hb); clear HB; have HB := n0_; clear n0_; (try clear hb); (try clear hb2); (try clear hk); (try clear hi)) | ((with_reducible refine gate_callee (f := 23) rfl ?_); refine goesL_ (some 15) rfl rfl Try.func23 (by kernel_rfl) rfl #[.int .i64 a2, .int .i64 50] rfl (by (try simp only [List.map_toArray, List.map_cons, List.map_nil]); first | done | rfl | (simp only [List.length_drop, List.length_take]; rfl)) ?_; (with_reducible refine (synodallaw8_within.calls a2 50 t142 _ A7.out).mono ?_); rintro e w' ⟨rfl, ⟨nd, rfl⟩⟩; refine ⟨_, rfl, ?_⟩) | ((with_reducible refine gate_dst (N := 17) rfl ?_); refine Kd.R_lit (Kd.int .i64) _ 3 ?hg (N := 17) ?hd (xs := ([] : List Int)) (inner := []) (ok := fun _ => True) (okp := fun _ => True) ?hr ?hp (fun _ hk => hk) trivial (Below.refl _ _) (Nat.le_refl _) (by simp) ?_; (case hd => rfl); (case hg => rfl); (case hr => first | (go_simp; done) | (go_simp; rfl)); (case hp => exact (Reps.none _ _)); intro v144 w13 ho14 hb hg_ hnew_; clear hg_ hnew_; (first | rw [← Ny143.out] at ho14 | (simp only [Int.reduceToNat] at ho14; rw [← Ny143.out] at ho14)); have n0_ := Aside0.mk (Kd.R_lower ho14 (below_size (by repeat (first | (with_reducible first | exact HB.out | apply below_alloc | apply pw_below_drewN | apply below_drew1) | exact HB.out)))); have n1_ := Aside0.mk (below_step (by repeat (first | (with_reducible first | exact HB.out | apply below_alloc | apply pw_below_drewN | apply below_drew1) | exact HB.out)) hb); clear HB; have HO145 := n0_; have HB := n1_; clear n0_ n1_; clear hb ho14) | ((with_reducible refine gate_callee (f := 21) rfl ?_); refine goesL_ (some 19) rfl rfl Try.func21 (by kernel_rfl) rfl #[.int .i64 a0] rfl (by (try simp only [List.map_toArray, List.map_cons, List.map_nil]); first | done | rfl | (simp only [List.length_drop, List.length_take]; rfl)) ?_; (with_reducible refine (synodallaw8_Plain.calls k a0 t146 t149 _ A8.out).mono ?_); rintro e w15 ⟨v147, v150, rfl, ho0, ho1, hb⟩; refine ⟨_, rfl, ?_⟩; have n0_ := Aside0.mk (Kd.R_mono (Kd.R_told (Kd.R_told (Kd.R_old (by (with_reducible repeat (first | apply Kd.R_alloc | apply Kd.R_drewN | apply Kd.R_drew)); exact HO145.out) hb) (Kd.R_base ho0)) (Kd.R_base ho1)) (fun _ h_ => h_.1)); have n1_ := Aside0.mk (Kd.R_lower (Kd.R_new' ho0 (Kd.R_lt (by (with_reducible repeat (first | apply Kd.R_alloc | apply Kd.R_drewN | apply Kd.R_drew)); exact HO145.out))) (below_size (by repeat (first | (with_reducible first | exact HB.out | apply below_alloc | apply pw_below_drewN | apply below_drew1) | exact HB.out)))); have n2_ := Aside0.mk (Kd.R_lower (Kd.R_new' ho1 (Kd.R_lt (by (with_reducible repeat (first | apply Kd.R_alloc | apply Kd.R_drewN | apply Kd.R_drew)); exact HO145.out))) (below_size (by repeat (first | (with_reducible first | exact HB.out | apply below_alloc | apply pw_below_drewN | apply below_drew1) | exact HB.out)))); have n3_ := Aside0.mk (below_step (by repeat (first | (with_reducible first | exact HB.out | apply below_alloc | apply pw_below_drewN | apply below_drew1) | exact HB.out)) hb); clear HO145; clear HB; have HO145 := n0_; have HO148 := n1_; have HO151 := n2_; have HB := n3_; clear n0_ n1_ n2_ n3_; (try clear hb); (try clear hb2); (try clear hk); (try clear hi); (try clear ho0); (try clear ho1); obtain ⟨Ao17, co17, eo17⟩ := Kd.R_slice HO151.out; subst eo17) | ((with_reducible refine gate_builtin (b := .append) (xs := #[.tmp 17, .tmp 20]) rfl ?_); at_builtin; refine Kd.R_append_rows (Kd.int .i64) (w0 := w) w.heap.size rfl (.tmp 17) (.tmp 20) 22 3 (.int .i64 0) 8 rfl Try.underlying22 info3 rfl (by decide) (by omega) v144 y143 t149 _ _ _ (fun k_ => some k_ ≠ (v147 : Value).ownBlock ∧ some k_ ≠ (.slice Ao17 t149.length co17 : Value).ownBlock) (fun _ => False) rfl rfl ?aO ?aR (fun _ _ h => h) (fun _ h => h.elim) ?aF ?aB ?aS ?aL ?_; (case aR => repeat (first | exact (Kd.R_reads' HO151.out).2.2 | (with_reducible refine Kd.C_alloc ?_ _) | (with_reducible refine Kd.C_drewN ?_ _) | (with_reducible refine Kd.C_drew ?_))); (case aB => exact (by repeat (first | (with_reducible first | exact HB.out | apply below_alloc | apply pw_below_drewN | apply below_drew1) | exact HB.out))); (case aF => exact (fun k_ hk => ⟨Kd.fresh' (Kd.R_lt (by (with_reducible repeat (first | apply Kd.R_alloc | apply Kd.R_drewN | apply Kd.R_drew)); exact HO148.out)) k_ hk, Kd.fresh' (Kd.R_lt (by (with_reducible repeat (first | apply Kd.R_alloc | apply Kd.R_drewN | apply Kd.R_drew)); exact HO151.out)) k_ hk⟩)); (case aO => exact (by (with_reducible repeat (first | apply Kd.R_alloc | apply Kd.R_drewN | apply Kd.R_drew)); exact Kd.R_mono HO145.out (fun _ hk => ⟨hk.1.2, hk.2⟩))); (case aS => exact (below_size (by repeat (first | (with_reducible first | exact HB.out | apply below_alloc | apply pw_below_drewN | apply below_drew1) | exact HB.out)))); (case aL => have := LMc9.out; omega); intro v153 w16 ho hb hg hat; rw [← Ny152.out] at ho; have n0_ := Aside0.mk (Kd.R_after (ok := (fun k_ => some k_ ≠ (.slice Ao17 t149.length co17 : Value).ownBlock)) (by (with_reducible repeat (first | apply Kd.R_alloc | apply Kd.R_drewN | apply Kd.R_drew)); exact HO148.out) hg hat); have n1_ := Aside0.mk (Kd.R_after (ok := (fun k_ => some k_ ≠ (v147 : Value).ownBlock)) (by (with_reducible repeat (first | apply Kd.R_alloc | apply Kd.R_drewN | apply Kd.R_drew)); exact HO151.out) hg hat); have n2_ := Aside0.mk (hb); have n3_ := Aside0.mk (ho); clear HO148; clear HO151; clear HB; clear HO145; have HO148 := n0_; have HO151 := n1_; have HB := n2_; have HO154 := n3_; clear n0_ n1_ n2_ n3_; clear ho hb hg hat) | ((with_reducible refine gate_callee (f := 23) rfl ?_); refine goesL_ (some 23) rfl rfl Try.func23 (by kernel_rfl) rfl #[.int .i64 a1, .int .i64 5] rfl (by (try simp only [List.map_toArray, List.map_cons, List.map_nil]); first | done | rfl | (simp only [List.length_drop, List.length_take]; rfl)) ?_; (with_reducible refine (synodallaw8_within.calls a1 5 t155 _ A10.out).mono ?_); rintro e w' ⟨rfl, ⟨nd, rfl⟩⟩; refine ⟨_, rfl, ?_⟩; have n0_ := Aside0.mk (Kd.R_drewN HO148.out nd); have n1_ := Aside0.mk (Kd.R_drewN HO151.out nd); have n2_ := Aside0.mk (Kd.R_drewN HO154.out nd); have n3_ := Aside0.mk (pw_below_drewN HB.out nd); clear HO148 HO151 HO154 HB; generalize World.drewN w16 nd = w16 at *; have HO148 := n0_; have HO151 := n1_; have HO154 := n2_; have HB := n3_; clear n0_ n1_ n2_ n3_))
      (try simp only [Act.put, List.setIfInBounds_toArray, List.set_cons_zero, List.set_cons_succ])
      go_cut [9, 10] (fun v9 v10 wc => ∃ (kq : Nat) (x9_10 : List Int) (x10_10 : Int), v10 = .int .i64 x10_10 ∧ Aside0 (synodallaw8_ConfChecks.j0 kq a3 x9_10 x10_10 = some r) ∧ Aside0 (kq ≤ k) ∧ Aside0 (Kd.R (Kd.int .i64) 3 wc w.heap.size (fun _ => True) v9 x9_10) ∧ Aside0 (Below w.heap.size w wc))
      case first =>
        have H := HC11.out
        clear HC11
        by_cases c18 : t155 = 0
        · rw [if_pos c18] at H
          have c18b0 : (t155 == 0) = true := beq_iff_eq.mpr c18
          have c18b1 : (t155 != 0) = false := bne_eq_false_iff_eq.mpr c18
          clear c18
          (first | rw [c18b0] | (simp only [i64_w, i32_w]; rw [c18b0]) | skip)
          obtain ⟨ji19, hji19⟩ : ∃ j_ : Int, (wrap64 ((y152.length : Int) - 1)) = j_ := ⟨_, rfl⟩
          replace H : (if 0 ≤ (ji19) then (if (ji19) < (y152.length : Int) then (if y152.length < 17592186044416 then (synodallaw8_ConfChecks.j0 k a3 (y152 ++ [rd y152 (ji19)]) 1) else (none)) else (none)) else (none)) = some r := by first | (rw [hji19] at H; exact H) | (simp only [hji19] at H ⊢; exact H)
          have hji19w : (IntKind.i64.wrap ((y152.length : Int) - 1)) = ji19 := (i64_w _).trans hji19
          by_cases c20 : 0 ≤ (ji19)
          · rw [if_pos c20] at H
            have c20b0 : decide (0 ≤ (ji19)) = true := decide_eq_true c20
            clear c20
            by_cases c21 : (ji19) < (y152.length : Int)
            · rw [if_pos c21] at H
              have c21b0 : decide ((ji19) < (y152.length : Int)) = true := decide_eq_true c21
              clear c21
              by_cases c22 : y152.length < 17592186044416
              · rw [if_pos c22] at H
                have LMc22 := Aside0.mk c22
                clear c22
                obtain ⟨y157, hy157⟩ : ∃ y_ : List Int, y_ = (y152 ++ [rd y152 (ji19)]) := ⟨_, rfl⟩
                replace H : (synodallaw8_ConfChecks.j0 k a3 y157 1) = some r := by first | (rw [hy157]; with_reducible exact H) | (have H2_ := (Option.bind_some _ _).symm.trans H; rw [hy157]; with_reducible exact H2_) | (have H2_ := (Option.bind_some _ _).symm.trans H; with_reducible exact H2_) | with_reducible exact H | (rw [hy157]; exact H) | exact H
                have Ny157 := Aside0.mk hy157
                clear hy157
                have H' := Aside0.mk H
                clear H
                obtain ⟨Ao23, co23, eo23⟩ := Kd.R_slice HO154.out
                subst eo23
                have p156 : 0 ≤ ((ji19) : Int) := of_decide_eq_true (by first | (with_reducible assumption) | assumption)
                have q156 : (ji19) < (y152.length : Int) := of_decide_eq_true (by first | (with_reducible assumption) | assumption)
                obtain ⟨ad156, e156, hx156_0⟩ := Kd.at_int (Kd.R_reads' HO154.out).2.2 (ji19) p156 q156
                cases e156
                replace p156 := eq_true p156
                replace q156 := eq_true q156
                go_wp2_with (first | ((with_reducible refine gate_builtin (b := .append) (xs := #[.tmp 26, .tmp 33]) rfl ?_); at_builtin; refine Kd.R_append (Kd.int .i64) (w0 := w) w.heap.size rfl (.tmp 26) (.tmp 33) 22 3 (.int .i64 0) 8 rfl Try.underlying22 info3 rfl (by decide) (by omega) (.slice (some ad156) y152.length co23) y152 (rd y152 (ji19)) [.int .i64 (rd y152 (ji19))] (fun k_ => some k_ ≠ (v147 : Value).ownBlock ∧ some k_ ≠ (.slice Ao17 t149.length co17 : Value).ownBlock) (fun _ => False) rfl rfl ?aP (fun _ hk => hk.elim) ?aF ?aO ?aB ?aS ?aL ?_; (case aP => exact rfl); (case aB => exact (by repeat (first | (with_reducible first | exact HB.out | apply below_alloc | apply pw_below_drewN | apply below_drew1) | exact HB.out))); (case aF => exact (fun k_ hk => ⟨Kd.fresh' (Kd.R_lt (by (with_reducible repeat (first | apply Kd.R_alloc | apply Kd.R_drewN | apply Kd.R_drew)); exact HO148.out)) k_ hk, Kd.fresh' (Kd.R_lt (by (with_reducible repeat (first | apply Kd.R_alloc | apply Kd.R_drewN | apply Kd.R_drew)); exact HO151.out)) k_ hk⟩)); (case aO => exact (by (with_reducible repeat (first | apply Kd.R_alloc | apply Kd.R_drewN | apply Kd.R_drew)); exact HO154.out)); (case aS => exact (below_size (by repeat (first | (with_reducible first | exact HB.out | apply below_alloc | apply pw_below_drewN | apply below_drew1) | exact HB.out)))); (case aL => have := LMc22.out; omega); intro v158 w24 ho hb hg hat; rw [← Ny157.out] at ho; have n0_ := Aside0.mk (Kd.R_after (ok := (fun k_ => some k_ ≠ (.slice Ao17 t149.length co17 : Value).ownBlock)) (by (with_reducible repeat (first | apply Kd.R_alloc | apply Kd.R_drewN | apply Kd.R_drew)); exact HO148.out) hg hat); have n1_ := Aside0.mk (Kd.R_after (ok := (fun k_ => some k_ ≠ (v147 : Value).ownBlock)) (by (with_reducible repeat (first | apply Kd.R_alloc | apply Kd.R_drewN | apply Kd.R_drew)); exact HO151.out) hg hat); have n2_ := Aside0.mk (hb); have n3_ := Aside0.mk (ho); clear HO148; clear HO151; clear HB; clear HO154; have HO148 := n0_; have HO151 := n1_; have HB := n2_; have HO159 := n3_; clear n0_ n1_ n2_ n3_; clear ho hb hg hat))
                go_meet
                case rel => exact ⟨_, (y157), (1), (by first | rfl | (simp; done) | (simp [*]; done)), H', ⟨by first | omega | exact Nat.le_refl _⟩, ⟨by (with_reducible repeat (first | apply Kd.R_alloc | apply Kd.R_drewN | apply Kd.R_drew)); exact Kd.R_mono HO159.out (fun _ hk => trivial)⟩, ⟨by repeat (first | (with_reducible first | exact HB.out | apply below_alloc | apply pw_below_drewN | apply below_drew1) | exact HB.out)⟩⟩
              · rw [if_neg c22] at H
                exact absurd H (by simp)
            · rw [if_neg c21] at H
              exact absurd H (by simp)
          · rw [if_neg c20] at H
            exact absurd H (by simp)
        · rw [if_neg c18] at H
          have c18b0 : (t155 == 0) = false := beq_eq_false_iff_ne.mpr c18
          have c18b1 : (t155 != 0) = true := bne_iff_ne.mpr c18
          (first | rw [c18b0] | (simp only [i64_w, i32_w]; rw [c18b0]) | skip)
          by_cases c25 : t155 = 1
          · rw [if_pos c25] at H
            have c25b0 : (t155 == 1) = true := beq_iff_eq.mpr c25
            have c25b1 : (t155 != 1) = false := bne_eq_false_iff_eq.mpr c25
            clear c25
            obtain ⟨ji26, hji26⟩ : ∃ j_ : Int, (wrap64 ((y152.length : Int) - 1)) = j_ := ⟨_, rfl⟩
            replace H : (if 0 ≤ (ji26) then (if (ji26) ≤ (y152.length : Int) then ((some (y152.take ((ji26) : Int).toNat : List Int)).bind fun y160 => (if y160.length < 17592186044416 then (synodallaw8_ConfChecks.j0 k a3 (y160 ++ [wrap64 (8 + (wrap64 (1 + t142)))]) 1) else (none))) else (none)) else (none)) = some r := by first | (rw [hji26] at H; exact H) | (simp only [hji26] at H ⊢; exact H)
            have hji26w : (IntKind.i64.wrap ((y152.length : Int) - 1)) = ji26 := (i64_w _).trans hji26
            by_cases c27 : 0 ≤ (ji26)
            · rw [if_pos c27] at H
              have c27b0 := eq_true c27
              have c27b1 : decide (0 ≤ (ji26)) = true := decide_eq_true c27
              clear c27
              by_cases c28 : (ji26) ≤ (y152.length : Int)
              · rw [if_pos c28] at H
                have c28b0 := eq_true c28
                have c28b1 : decide ((ji26) ≤ (y152.length : Int)) = true := decide_eq_true c28
                clear c28
                obtain ⟨y160, hy160⟩ : ∃ y_ : List Int, y_ = (y152.take ((ji26) : Int).toNat) := ⟨_, rfl⟩
                replace H : (if y160.length < 17592186044416 then (synodallaw8_ConfChecks.j0 k a3 (y160 ++ [wrap64 (8 + (wrap64 (1 + t142)))]) 1) else (none)) = some r := by first | (rw [hy160]; with_reducible exact H) | (have H2_ := (Option.bind_some _ _).symm.trans H; rw [hy160]; with_reducible exact H2_) | (have H2_ := (Option.bind_some _ _).symm.trans H; with_reducible exact H2_) | with_reducible exact H | (rw [hy160]; exact H) | exact H
                have Ny160 := Aside0.mk hy160
                clear hy160
                by_cases c29 : y160.length < 17592186044416
                · rw [if_pos c29] at H
                  have LMc29 := Aside0.mk c29
                  clear c29
                  obtain ⟨y163, hy163⟩ : ∃ y_ : List Int, y_ = (y160 ++ [wrap64 (8 + (wrap64 (1 + t142)))]) := ⟨_, rfl⟩
                  replace H : (synodallaw8_ConfChecks.j0 k a3 y163 1) = some r := by first | (rw [hy163]; with_reducible exact H) | (have H2_ := (Option.bind_some _ _).symm.trans H; rw [hy163]; with_reducible exact H2_) | (have H2_ := (Option.bind_some _ _).symm.trans H; with_reducible exact H2_) | with_reducible exact H | (rw [hy163]; exact H) | exact H
                  have Ny163 := Aside0.mk hy163
                  clear hy163
                  have H' := Aside0.mk H
                  clear H
                  obtain ⟨Ao30, co30, eo30⟩ := Kd.R_slice HO154.out
                  subst eo30
                  have q31 : ((ji26) : Int) ≤ ((y152.length : Int) : Int) := of_decide_eq_true (by first | (with_reducible assumption) | assumption)
                  obtain ⟨i031, hi031, _, hsz31, _⟩ := info_parts info3
                  have hcut31 := cut_to (P := Try.prog) 22 3 .i64 Try.underlying22 hi031 Ao30 y152.length co30 (ji26) (of_decide_eq_true (by first | (with_reducible assumption) | assumption)) q31 (Kd.R_reads' HO154.out).2.1
                  have hr31 := Kd.R_take (m := ((ji26) : Int).toNat) HO154.out (by omega)
                  have hy31 : y160.length = ((ji26) : Int).toNat := (by rw [Ny160.out, List.length_take]; omega)
                  rw [← Ny160.out] at hr31
                  rw [← hy31] at hr31 hcut31
                  clear hy31 hi031 hsz31 HO154
                  have HO162 := Aside0.mk hr31
                  (try simp only [show (Value.slice Ao30 y152.length co30).ownBlock = (Value.slice Ao30 y160.length co30).ownBlock from by cases Ao30 <;> rfl] at *)
                  clear hr31
                  replace q31 := eq_true q31
                  go_wp2_with (first | ((with_reducible refine gate_builtin (b := .append) (xs := #[.tmp 41, .tmp 44]) rfl ?_); at_builtin; refine Kd.R_append (Kd.int .i64) (w0 := w) w.heap.size rfl (.tmp 41) (.tmp 44) 22 3 (.int .i64 0) 8 rfl Try.underlying22 info3 rfl (by decide) (by omega) (.slice Ao30 y160.length co30) y160 (wrap64 (8 + (wrap64 (1 + t142)))) [.int .i64 (wrap64 (8 + (wrap64 (1 + t142))))] (fun k_ => some k_ ≠ (v147 : Value).ownBlock ∧ some k_ ≠ (.slice Ao17 t149.length co17 : Value).ownBlock) (fun _ => False) rfl rfl ?aP (fun _ hk => hk.elim) ?aF ?aO ?aB ?aS ?aL ?_; (case aP => exact rfl); (case aB => exact (by repeat (first | (with_reducible first | exact HB.out | apply below_alloc | apply pw_below_drewN | apply below_drew1) | exact HB.out))); (case aF => exact (fun k_ hk => ⟨Kd.fresh' (Kd.R_lt (by (with_reducible repeat (first | apply Kd.R_alloc | apply Kd.R_drewN | apply Kd.R_drew)); exact HO148.out)) k_ hk, Kd.fresh' (Kd.R_lt (by (with_reducible repeat (first | apply Kd.R_alloc | apply Kd.R_drewN | apply Kd.R_drew)); exact HO151.out)) k_ hk⟩)); (case aO => exact (by (with_reducible repeat (first | apply Kd.R_alloc | apply Kd.R_drewN | apply Kd.R_drew)); exact HO162.out)); (case aS => exact (below_size (by repeat (first | (with_reducible first | exact HB.out | apply below_alloc | apply pw_below_drewN | apply below_drew1) | exact HB.out)))); (case aL => have := LMc29.out; omega); intro v164 w32 ho hb hg hat; rw [← Ny163.out] at ho; have n0_ := Aside0.mk (Kd.R_after (ok := (fun k_ => some k_ ≠ (.slice Ao17 t149.length co17 : Value).ownBlock)) (by (with_reducible repeat (first | apply Kd.R_alloc | apply Kd.R_drewN | apply Kd.R_drew)); exact HO148.out) hg hat); have n1_ := Aside0.mk (Kd.R_after (ok := (fun k_ => some k_ ≠ (v147 : Value).ownBlock)) (by (with_reducible repeat (first | apply Kd.R_alloc | apply Kd.R_drewN | apply Kd.R_drew)); exact HO151.out) hg hat); have n2_ := Aside0.mk (hb); have n3_ := Aside0.mk (ho); clear HO148; clear HO151; clear HB; clear HO162; have HO148 := n0_; have HO151 := n1_; have HB := n2_; have HO165 := n3_; clear n0_ n1_ n2_ n3_; clear ho hb hg hat))
                  go_meet
                  case rel => exact ⟨_, (y163), (1), (by first | rfl | (simp; done) | (simp [*]; done)), H', ⟨by first | omega | exact Nat.le_refl _⟩, ⟨by (with_reducible repeat (first | apply Kd.R_alloc | apply Kd.R_drewN | apply Kd.R_drew)); exact Kd.R_mono HO165.out (fun _ hk => trivial)⟩, ⟨by repeat (first | (with_reducible first | exact HB.out | apply below_alloc | apply pw_below_drewN | apply below_drew1) | exact HB.out)⟩⟩
                · rw [if_neg c29] at H
                  exact absurd H (by simp)
              · rw [if_neg c28] at H
                exact absurd H (by simp)
            · rw [if_neg c27] at H
              exact absurd H (by simp)
          · rw [if_neg c25] at H
            have c25b0 : (t155 == 1) = false := beq_eq_false_iff_ne.mpr c25
            have c25b1 : (t155 != 1) = true := bne_iff_ne.mpr c25
            by_cases c33 : t155 = 2
            · rw [if_pos c33] at H
              have c33b0 : (t155 == 2) = true := beq_iff_eq.mpr c33
              have c33b1 : (t155 != 2) = false := bne_eq_false_iff_eq.mpr c33
              clear c33
              by_cases c34 : 0 < (y152.length : Int)
              · rw [if_pos c34] at H
                have c34b0 : decide (0 < (y152.length : Int)) = true := decide_eq_true c34
                have c34b1 : decide (0 < y152.length) = true := decide_eq_true (by omega)
                clear c34
                obtain ⟨y166, hy166⟩ : ∃ y_ : List Int, y_ = (y152.set (0 : Int).toNat (wrap64 (-(wrap64 (1 + t142))))) := ⟨_, rfl⟩
                replace H : (synodallaw8_ConfChecks.j0 k a3 y166 1) = some r := by first | (rw [hy166]; with_reducible exact H) | (have H2_ := (Option.bind_some _ _).symm.trans H; rw [hy166]; with_reducible exact H2_) | (have H2_ := (Option.bind_some _ _).symm.trans H; with_reducible exact H2_) | with_reducible exact H | (rw [hy166]; exact H) | exact H
                have Ny166 := Aside0.mk hy166
                clear hy166
                have H' := Aside0.mk H
                clear H
                have p35 : 0 ≤ (0 : Int) := (by omega)
                have q35 : (0 : Int) < ((y152.length : Int) : Int) := of_decide_eq_true (by first | (with_reducible assumption) | assumption)
                have qi35 : (0 < y152.length) = True := eq_true (by omega)
                obtain ⟨go35, co35, eo35, gb35, gl35, cl35, HG35⟩ := Kd.R_form HO154.out (by omega)
                (first | cases eo35 | (injection eo35 with ea_ en_ ec_; (first | subst ea_ | (injection ea_ with ea_; subst ea_)); subst ec_; clear en_))
                have GB35 := Aside0.mk gb35
                have GG35 := Aside0.mk HG35
                clear gb35 gl35 HG35
                obtain ⟨hx35_0, hf35_0⟩ := Kd.R_celln 0 HO154.out (0 : Int) p35 q35
                (try rw [show ((0 : Int)).toNat = 0 from rfl] at hx35_0)
                (try simp only [Nat.reduceMul, Nat.zero_mul, Nat.zero_add, Nat.reduceAdd] at hx35_0)
                (try rw [show ((0 : Int)).toNat = 0 from rfl] at hf35_0)
                (try simp only [Nat.reduceMul, Nat.zero_mul, Nat.zero_add, Nat.reduceAdd] at hf35_0)
                replace p35 := eq_true p35
                replace q35 := eq_true q35
                have HP36 := Kd.R_putg HO154.out (0 : Int) (wrap64 (-(wrap64 (1 + t142))))
                go_wp2_with (first | ((with_reducible refine gate_store (t := 3) (p := 51) rfl ?_); refine store_event (t := 3) (p := 51) (v := ?vo_w37) (w1 := (w16.setCell ⟨go35, (0 : Int).toNat, none⟩ (.int .i64 (wrap64 (-(wrap64 (1 + t142))))))) ?hg ?ho ?hn ?hr ?_; (case ho => rfl); (case hg => rfl); (case hn => rfl); (case hr => first | (go_simp; done) | (go_simp; rfl)); intro w37 hw; have hg : w16.grownBy w37 (some go35) := (by rw [hw]; exact HP36.2); have hp_ : Kd.R (Kd.int .i64) 3 w37 w.heap.size (fun k_ => some k_ ≠ (v147 : Value).ownBlock ∧ some k_ ≠ (.slice Ao17 t149.length co17 : Value).ownBlock) (.slice (some ⟨go35, 0, none⟩) y152.length co35) y166 := (by rw [hw, Ny166.out]; exact HP36.1); clear HP36; have n0_ := Aside0.mk (Kd.R_after (v := (.slice (some ⟨go35, 0, none⟩) y152.length co35)) (v1 := (.slice (some ⟨go35, 0, none⟩) y152.length co35)) (ok := (fun k_ => some k_ ≠ (.slice Ao17 t149.length co17 : Value).ownBlock)) (by (with_reducible repeat (first | apply Kd.R_alloc | apply Kd.R_drewN | apply Kd.R_drew)); exact HO148.out) hg (.inl rfl)); have n1_ := Aside0.mk (Kd.R_after (v := (.slice (some ⟨go35, 0, none⟩) y152.length co35)) (v1 := (.slice (some ⟨go35, 0, none⟩) y152.length co35)) (ok := (fun k_ => some k_ ≠ (v147 : Value).ownBlock)) (by (with_reducible repeat (first | apply Kd.R_alloc | apply Kd.R_drewN | apply Kd.R_drew)); exact HO151.out) hg (.inl rfl)); have n2_ := Aside0.mk (hp_); have n3_ := Aside0.mk ((by rw [hw]; exact below_set (HB.out) GB35.out : Below w.heap.size w w37)); clear HO148; clear HO151; clear HO154; clear HB; have HO148 := n0_; have HO151 := n1_; have HO154 := n2_; have HB := n3_; clear n0_ n1_ n2_ n3_; clear hg hw hp_))
                go_meet
                case rel => exact ⟨_, (y166), (1), (by first | rfl | (simp; done) | (simp [*]; done)), H', ⟨by first | omega | exact Nat.le_refl _⟩, ⟨by (with_reducible repeat (first | apply Kd.R_alloc | apply Kd.R_drewN | apply Kd.R_drew)); exact Kd.R_mono HO154.out (fun _ hk => trivial)⟩, ⟨by repeat (first | (with_reducible first | exact HB.out | apply below_alloc | apply pw_below_drewN | apply below_drew1) | exact HB.out)⟩⟩
              · rw [if_neg c34] at H
                exact absurd H (by simp)
            · rw [if_neg c33] at H
              have c33b0 : (t155 == 2) = false := beq_eq_false_iff_ne.mpr c33
              have c33b1 : (t155 != 2) = true := bne_iff_ne.mpr c33
              by_cases c38 : t155 = 3
              · rw [if_pos c38] at H
                have c38b0 : (t155 == 3) = true := beq_iff_eq.mpr c38
                have c38b1 : (t155 != 3) = false := bne_eq_false_iff_eq.mpr c38
                clear c38
                obtain ⟨y167, hy167⟩ : ∃ y_ : List Int, y_ = (([0, 1, 2, 3, 4, 5, 6, 7] : List Int)) := ⟨_, rfl⟩
                replace H : (synodallaw8_ConfChecks.j0 k a3 y167 4) = some r := by first | (rw [hy167]; with_reducible exact H) | (have H2_ := (Option.bind_some _ _).symm.trans H; rw [hy167]; with_reducible exact H2_) | (have H2_ := (Option.bind_some _ _).symm.trans H; with_reducible exact H2_) | with_reducible exact H | (rw [hy167]; exact H) | exact H
                have Ny167 := Aside0.mk hy167
                clear hy167
                have H' := Aside0.mk H
                clear H
                go_wp2_with (first | ((with_reducible refine gate_dst (N := 54) rfl ?_); refine Kd.R_lit (Kd.int .i64) _ 3 ?hg (N := 54) ?hd (xs := ([0, 1, 2, 3, 4, 5, 6, 7] : List Int)) (inner := [.int .i64 0, .int .i64 1, .int .i64 2, .int .i64 3, .int .i64 4, .int .i64 5, .int .i64 6, .int .i64 7]) (ok := fun _ => True) (okp := fun _ => True) ?hr ?hp (fun _ hk => hk) trivial (Below.refl _ _) (Nat.le_refl _) (by simp) ?_; (case hd => rfl); (case hg => rfl); (case hr => first | (go_simp; done) | (go_simp; rfl)); (case hp => exact (Reps.one (show Kd.M (Kd.int .i64) _ _ _ 0 [.int .i64 0] from rfl) (Reps.one (show Kd.M (Kd.int .i64) _ _ _ 1 [.int .i64 1] from rfl) (Reps.one (show Kd.M (Kd.int .i64) _ _ _ 2 [.int .i64 2] from rfl) (Reps.one (show Kd.M (Kd.int .i64) _ _ _ 3 [.int .i64 3] from rfl) (Reps.one (show Kd.M (Kd.int .i64) _ _ _ 4 [.int .i64 4] from rfl) (Reps.one (show Kd.M (Kd.int .i64) _ _ _ 5 [.int .i64 5] from rfl) (Reps.one (show Kd.M (Kd.int .i64) _ _ _ 6 [.int .i64 6] from rfl) (Reps.one (show Kd.M (Kd.int .i64) _ _ _ 7 [.int .i64 7] from rfl) (Reps.none _ _)))))))))); intro v168 w39 ho40 hb hg_ hnew_; clear hg_ hnew_; (first | rw [← Ny167.out] at ho40 | (simp only [Int.reduceToNat] at ho40; rw [← Ny167.out] at ho40)); have n0_ := Aside0.mk (Kd.R_elder' (by (with_reducible repeat (first | apply Kd.R_alloc | apply Kd.R_drewN | apply Kd.R_drew)); exact HO148.out) (Kd.R_base ho40) hb); have n1_ := Aside0.mk (Kd.R_elder' (by (with_reducible repeat (first | apply Kd.R_alloc | apply Kd.R_drewN | apply Kd.R_drew)); exact HO151.out) (Kd.R_base ho40) hb); have n2_ := Aside0.mk (Kd.R_elder' (by (with_reducible repeat (first | apply Kd.R_alloc | apply Kd.R_drewN | apply Kd.R_drew)); exact HO154.out) (Kd.R_base ho40) hb); have n3_ := Aside0.mk (Kd.R_lower (Kd.R_new' (Kd.R_new' (Kd.R_new' ho40 (Kd.R_lt (by (with_reducible repeat (first | apply Kd.R_alloc | apply Kd.R_drewN | apply Kd.R_drew)); exact HO148.out))) (Kd.R_lt (by (with_reducible repeat (first | apply Kd.R_alloc | apply Kd.R_drewN | apply Kd.R_drew)); exact HO151.out))) (Kd.R_lt (by (with_reducible repeat (first | apply Kd.R_alloc | apply Kd.R_drewN | apply Kd.R_drew)); exact HO154.out))) (below_size (by repeat (first | (with_reducible first | exact HB.out | apply below_alloc | apply pw_below_drewN | apply below_drew1) | exact HB.out)))); have n4_ := Aside0.mk (below_step (by repeat (first | (with_reducible first | exact HB.out | apply below_alloc | apply pw_below_drewN | apply below_drew1) | exact HB.out)) hb); clear HO148; clear HO151; clear HO154; clear HB; have HO148 := n0_; have HO151 := n1_; have HO154 := n2_; have HO169 := n3_; have HB := n4_; clear n0_ n1_ n2_ n3_ n4_; clear hb ho40))
                go_meet
                case rel => exact ⟨_, (y167), (4), (by first | rfl | (simp; done) | (simp [*]; done)), H', ⟨by first | omega | exact Nat.le_refl _⟩, ⟨by (with_reducible repeat (first | apply Kd.R_alloc | apply Kd.R_drewN | apply Kd.R_drew)); exact Kd.R_mono HO169.out (fun _ hk => trivial)⟩, ⟨by repeat (first | (with_reducible first | exact HB.out | apply below_alloc | apply pw_below_drewN | apply below_drew1) | exact HB.out)⟩⟩
              · rw [if_neg c38] at H
                have c38b0 : (t155 == 3) = false := beq_eq_false_iff_ne.mpr c38
                have c38b1 : (t155 != 3) = true := bne_iff_ne.mpr c38
                by_cases c41 : t155 = 4
                · rw [if_pos c41] at H
                  have c41b0 : (t155 == 4) = true := beq_iff_eq.mpr c41
                  have c41b1 : (t155 != 4) = false := bne_eq_false_iff_eq.mpr c41
                  clear c41
                  have H' := Aside0.mk H
                  clear H
                  go_wp2
                  go_meet
                  case rel => exact ⟨_, (([] : List Int)), (2), (by first | rfl | (simp; done) | (simp [*]; done)), H', ⟨by first | omega | exact Nat.le_refl _⟩, ⟨by first | exact Kd.R_nil _ _ _ _ _ | exact Kd.N_nil _ _ _ _ _ | exact Kd.V_nil _ _ _ _ _ | exact Kd.Q_nil _ _ _ _ _ | exact Kd.S_nil _ _ _ _ _⟩, ⟨by repeat (first | (with_reducible first | exact HB.out | apply below_alloc | apply pw_below_drewN | apply below_drew1) | exact HB.out)⟩⟩
                · rw [if_neg c41] at H
                  have c41b0 : (t155 == 4) = false := beq_eq_false_iff_ne.mpr c41
                  have c41b1 : (t155 != 4) = true := bne_iff_ne.mpr c41
                  have H' := Aside0.mk H
                  clear H
                  go_wp2
                  go_meet
                  case rel => exact ⟨_, (y152), (1), (by first | rfl | (simp; done) | (simp [*]; done)), H', ⟨by first | omega | exact Nat.le_refl _⟩, ⟨by (with_reducible repeat (first | apply Kd.R_alloc | apply Kd.R_drewN | apply Kd.R_drew)); exact Kd.R_mono HO154.out (fun _ hk => trivial)⟩, ⟨by repeat (first | (with_reducible first | exact HB.out | apply below_alloc | apply pw_below_drewN | apply below_drew1) | exact HB.out)⟩⟩
      case rest =>
        clear HC11
        try clear c1
        try clear p1
        try clear q1
        try clear hx1
        try clear c2
        try clear p2
        try clear c3
        try clear p3
        try clear q3
        try clear hx3
        try clear qi3
        try clear c4
        try clear c6
        try clear p6
        try clear c7
        try clear c9
        try clear p15
        try clear q15
        try clear hx15
        try clear c18
        try clear c18b0
        try clear c18b1
        try clear c20
        try clear c20b0
        try clear c21
        try clear c21b0
        try clear c22
        try clear c23
        try clear c25
        try clear c25b0
        try clear c25b1
        try clear c27
        try clear c27b0
        try clear c27b1
        try clear c28
        try clear c28b0
        try clear c28b1
        try clear c29
        try clear q31
        try clear c33
        try clear c33b0
        try clear c33b1
        try clear c34
        try clear c34b0
        try clear c34b1
        try clear p35
        try clear q35
        try clear hx35
        try clear qi35
        try clear hf35
        try clear c38
        try clear c38b0
        try clear c38b1
        try clear c41
        try clear c41b0
        try clear c41b1
        try clear hx156_0
        try clear hx35_0
        try clear p156
        try clear p35
        try clear q156
        try clear q31
        try clear q35
        obtain ⟨kq, x9_10, x10_10, rfl, HA, HJ10, HO_9, HB⟩ := hcut
        cases kq with
        | zero => exact absurd HA.out (by simp [synodallaw8_ConfChecks.j0])
        | succ kj10 =>
          have H := HA.out
          clear HA
          simp only [synodallaw8_ConfChecks.j0] at H
          have HC42 := Aside0.mk H
          clear H
          obtain ⟨Ao43, co43, eo43⟩ := Kd.R_slice HO_9.out
          subst eo43
          go_upto_if 59 with (fail)
          go_cut [10] (fun v10 wc => ∃ (kq : Nat) (x10_41 : Int), v10 = .int .i64 x10_41 ∧ Aside0 (synodallaw8_ConfChecks.j1 kq a3 x9_10 x10_41 = some r) ∧ Aside0 (kq ≤ kj10) ∧ Aside0 (Kd.R (Kd.int .i64) 3 wc w.heap.size (fun _ => True) (.slice Ao43 x9_10.length co43) x9_10) ∧ Aside0 (Below w.heap.size w wc))
          case first =>
            have H := HC42.out
            clear HC42
            by_cases c44 : (x9_10.length : Int) > 7
            · rw [if_pos c44] at H
              have c44b0 : decide (7 < (x9_10.length : Int)) = true := decide_eq_true c44
              have c44b1 : decide (7 < x9_10.length) = true := decide_eq_true (by omega)
              clear c44
              (first | rw [c44b0] | (simp only [i64_w, i32_w]; rw [c44b0]) | skip)
              have H' := Aside0.mk H
              clear H
              go_wp2
              go_meet
              case rel => exact ⟨_, (4), (by first | rfl | (simp; done) | (simp [*]; done)), H', ⟨by have := HJ10.out; first | omega | exact Nat.le_refl _⟩, ⟨by (with_reducible repeat (first | apply Kd.R_alloc | apply Kd.R_drewN | apply Kd.R_drew)); exact HO_9.out⟩, ⟨by repeat (first | (with_reducible first | exact HB.out | apply below_alloc | apply pw_below_drewN | apply below_drew1) | exact HB.out)⟩⟩
            · rw [if_neg c44] at H
              have c44b0 : decide (7 < (x9_10.length : Int)) = false := decide_eq_false c44
              have c44b1 : decide (7 < x9_10.length) = false := decide_eq_false (by omega)
              clear c44
              (first | rw [c44b0] | (simp only [i64_w, i32_w]; rw [c44b0]) | skip)
              have H' := Aside0.mk H
              clear H
              go_wp2
              go_meet
              case rel => exact ⟨_, (x10_10), (by first | rfl | (simp; done) | (simp [*]; done)), H', ⟨by have := HJ10.out; first | omega | exact Nat.le_refl _⟩, ⟨by (with_reducible repeat (first | apply Kd.R_alloc | apply Kd.R_drewN | apply Kd.R_drew)); exact HO_9.out⟩, ⟨by repeat (first | (with_reducible first | exact HB.out | apply below_alloc | apply pw_below_drewN | apply below_drew1) | exact HB.out)⟩⟩
          case rest =>
            clear HC42
            try clear c1
            try clear p1
            try clear q1
            try clear hx1
            try clear c2
            try clear p2
            try clear c3
            try clear p3
            try clear q3
            try clear hx3
            try clear qi3
            try clear c4
            try clear c6
            try clear p6
            try clear c7
            try clear c9
            try clear p15
            try clear q15
            try clear hx15
            try clear c18
            try clear c18b0
            try clear c18b1
            try clear c20
            try clear c20b0
            try clear c21
            try clear c21b0
            try clear c22
            try clear c23
            try clear c25
            try clear c25b0
            try clear c25b1
            try clear c27
            try clear c27b0
            try clear c27b1
            try clear c28
            try clear c28b0
            try clear c28b1
            try clear c29
            try clear q31
            try clear c33
            try clear c33b0
            try clear c33b1
            try clear c34
            try clear c34b0
            try clear c34b1
            try clear p35
            try clear q35
            try clear hx35
            try clear qi35
            try clear hf35
            try clear c38
            try clear c38b0
            try clear c38b1
            try clear c41
            try clear c41b0
            try clear c41b1
            try clear c44
            try clear c44b0
            try clear c44b1
            try clear hx156_0
            try clear hx35_0
            try clear p1
            try clear p15
            try clear p156
            try clear p2
            try clear p3
            try clear p35
            try clear p6
            try clear q1
            try clear q15
            try clear q156
            try clear q3
            try clear q31
            try clear q35
            obtain ⟨kq, x10_41, rfl, HA, HJ41, HO_9, HB⟩ := hcut
            cases kq with
            | zero => exact absurd HA.out (by simp [synodallaw8_ConfChecks.j1])
            | succ kj41 =>
              have H := HA.out
              clear HA
              simp only [synodallaw8_ConfChecks.j1] at H
              by_cases c45 : a3 = true
              · subst c45
                have H1 : ((some (([0] : List Int) : List Int)).bind fun y170 => (if x10_41 = 2 then ((conf_Check.f kj41 x9_10 y170).bind fun t174 => (if t174 = 0 then ((conf_Joint.f x9_10 y170).bind fun t175 => (some (!t175))) else (some false))) else ((conf_Check.f kj41 x9_10 y170).bind fun t176 => (some (t176 == x10_41))))) = some r := by rw [if_pos rfl] at H; exact H
                clear H
                have H := H1
                clear H1
                obtain ⟨y170, hy170⟩ : ∃ y_ : List Int, y_ = (([0] : List Int)) := ⟨_, rfl⟩
                replace H : (if x10_41 = 2 then ((conf_Check.f kj41 x9_10 y170).bind fun t174 => (if t174 = 0 then ((conf_Joint.f x9_10 y170).bind fun t175 => (some (!t175))) else (some false))) else ((conf_Check.f kj41 x9_10 y170).bind fun t176 => (some (t176 == x10_41)))) = some r := by first | (rw [hy170]; with_reducible exact H) | (have H2_ := (Option.bind_some _ _).symm.trans H; rw [hy170]; with_reducible exact H2_) | (have H2_ := (Option.bind_some _ _).symm.trans H; with_reducible exact H2_) | with_reducible exact H | (rw [hy170]; exact H) | exact H
                have Ny170 := Aside0.mk hy170
                clear hy170
                by_cases c46 : x10_41 = 2
                · rw [if_pos c46] at H
                  have c46b0 : (x10_41 == 2) = true := beq_iff_eq.mpr c46
                  have c46b1 : (x10_41 != 2) = false := bne_eq_false_iff_eq.mpr c46
                  clear c46
                  replace H := Option.bind_eq_some_iff.mp H
                  obtain ⟨t174, A470, H⟩ := H
                  replace H : (if t174 = 0 then ((conf_Joint.f x9_10 y170).bind fun t175 => (some (!t175))) else (some false)) = some r := H
                  have A47 := Aside0.mk A470
                  clear A470
                  by_cases c48 : t174 = 0
                  · rw [if_pos c48] at H
                    have c48b0 : (t174 == 0) = true := beq_iff_eq.mpr c48
                    have c48b1 : (t174 != 0) = false := bne_eq_false_iff_eq.mpr c48
                    clear c48
                    replace H := Option.bind_eq_some_iff.mp H
                    obtain ⟨t175, A490, H⟩ := H
                    replace H : (some (!t175)) = some r := H
                    have A49 := Aside0.mk A490
                    clear A490
                    obtain rfl := Option.some.inj H
                    go_wp2_with (first | ((with_reducible refine gate_dst (N := 62) rfl ?_); refine Kd.R_lit (Kd.int .i64) _ 3 ?hg (N := 62) ?hd (xs := ([0] : List Int)) (inner := [.int .i64 0]) (ok := fun _ => True) (okp := fun _ => True) ?hr ?hp (fun _ hk => hk) trivial (Below.refl _ _) (Nat.le_refl _) (by simp) ?_; (case hd => rfl); (case hg => rfl); (case hr => first | (go_simp; done) | (go_simp; rfl)); (case hp => exact (Reps.one (show Kd.M (Kd.int .i64) _ _ _ 0 [.int .i64 0] from rfl) (Reps.none _ _))); intro v171 w50 ho51 hb hg_ hnew_; clear hg_ hnew_; (first | rw [← Ny170.out] at ho51 | (simp only [Int.reduceToNat] at ho51; rw [← Ny170.out] at ho51)); have n0_ := Aside0.mk (Kd.R_elder' (by (with_reducible repeat (first | apply Kd.R_alloc | apply Kd.R_drewN | apply Kd.R_drew)); exact HO_9.out) (Kd.R_base ho51) hb); have n1_ := Aside0.mk (Kd.R_lower (Kd.R_new' ho51 (Kd.R_lt (by (with_reducible repeat (first | apply Kd.R_alloc | apply Kd.R_drewN | apply Kd.R_drew)); exact HO_9.out))) (below_size (by repeat (first | (with_reducible first | exact HB.out | apply below_alloc | apply pw_below_drewN | apply below_drew1) | exact HB.out)))); have n2_ := Aside0.mk (below_step (by repeat (first | (with_reducible first | exact HB.out | apply below_alloc | apply pw_below_drewN | apply below_drew1) | exact HB.out)) hb); clear HO_9; clear HB; have HO_9 := n0_; have HO172 := n1_; have HB := n2_; clear n0_ n1_ n2_; clear hb ho51; obtain ⟨Ao52, co52, eo52⟩ := Kd.R_slice HO172.out; subst eo52) | ((with_reducible refine gate_dst (N := 11) rfl ?_); refine box_event ?hg (N := 11) ?hd (cs := #[.slice none 0 0, .slice none 0 0]) (t := 42) ?hr ?_; (case hd => rfl); (case hg => rfl); (case hr => first | (go_simp; done) | (go_simp; rfl)); intro gb173 hg w53 hbox hb; have n0_ := Aside0.mk (Kd.R_below (by (with_reducible repeat (first | apply Kd.R_alloc | apply Kd.R_drewN | apply Kd.R_drew)); exact HO_9.out) hb); have n1_ := Aside0.mk (Kd.R_below (by (with_reducible repeat (first | apply Kd.R_alloc | apply Kd.R_drewN | apply Kd.R_drew)); exact HO172.out) hb); have n2_ := Aside0.mk (below_step (by repeat (first | (with_reducible first | exact HB.out | apply below_alloc | apply pw_below_drewN | apply below_drew1) | exact HB.out)) hb); have n3_ := Aside0.mk (hbox); have n4_ := Aside0.mk ((by rw [hg]; exact (below_size (by repeat (first | (with_reducible first | exact HB.out | apply below_alloc | apply pw_below_drewN | apply below_drew1) | exact HB.out))) : w.heap.size ≤ gb173)); have n5_ := Aside0.mk ((by rw [hg]; exact (below_size (by repeat (first | (with_reducible first | exact HB.out | apply below_alloc | apply pw_below_drewN | apply below_drew1) | exact HB.out))) : w.heap.size ≤ gb173)); clear HO_9; clear HO172; clear HB; have HO_9 := n0_; have HO172 := n1_; have HB := n2_; have BK173 := n3_; have GW173 := n4_; have GE173 := n5_; clear n0_ n1_ n2_ n3_ n4_ n5_; clear hb hbox hg; have hcz54_0 : w53.cell? ⟨gb173, 0, none⟩ = some (.slice none 0 0) := (blk_cell BK173.out 0).trans rfl; have hcz54_1 : w53.cell? ⟨gb173, 1, none⟩ = some (.slice none 0 0) := (blk_cell BK173.out 1).trans rfl; have hfz54_0 := blk_frozen BK173.out 0; have hfz54_1 := blk_frozen BK173.out 1) | ((with_reducible refine gate_store (t := 42) (p := 11) rfl ?_); refine store_event (t := 42) (p := 11) (v := ?vo_w55) (w1 := ((w53.setCell ⟨gb173, 0, none⟩ (.slice Ao43 x9_10.length co43)).setCell ⟨gb173, 1, none⟩ (.slice Ao52 y170.length co52))) ?hg ?ho ?hn ?hr ?_; (case ho => rfl); (case hg => rfl); (case hn => rfl); (case hr => first | (go_simp; done) | (go_simp; rfl)); intro w55 hw; have n0_ : Aside0 (Kd.R (Kd.int .i64) 3 w55 w.heap.size (fun k_ => some k_ ≠ (.slice Ao52 y170.length co52 : Value).ownBlock) (.slice Ao43 x9_10.length co43) x9_10) := ⟨(by rw [hw]; exact (by (with_reducible repeat (first | apply Kd.R_alloc | apply Kd.R_drewN | apply Kd.R_drew)); exact Kd.R_mono (Kd.R_far (p := ⟨gb173, 1, none⟩) (Kd.R_far (p := ⟨gb173, 0, none⟩) (Kd.R_types HO_9.out BK173.out (by decide)) (fun _ hk => hk.2) (.slice Ao43 x9_10.length co43)) (fun _ hk => hk.2) (.slice Ao52 y170.length co52)) (fun _ hk => hk.1.2)))⟩; have n1_ : Aside0 (Kd.R (Kd.int .i64) 3 w55 w.heap.size (fun k_ => some k_ ≠ (.slice Ao43 x9_10.length co43 : Value).ownBlock) (.slice Ao52 y170.length co52) y170) := ⟨(by rw [hw]; exact (by (with_reducible repeat (first | apply Kd.R_alloc | apply Kd.R_drewN | apply Kd.R_drew)); exact Kd.R_mono (Kd.R_far (p := ⟨gb173, 1, none⟩) (Kd.R_far (p := ⟨gb173, 0, none⟩) (Kd.R_types HO172.out BK173.out (by decide)) (fun _ hk => hk.2) (.slice Ao43 x9_10.length co43)) (fun _ hk => hk.2) (.slice Ao52 y170.length co52)) (fun _ hk => hk.1.2)))⟩; have n2_ : Aside0 (w55.heap[gb173]? = some (.cells #[.slice Ao43 x9_10.length co43, .slice Ao52 y170.length co52] 42 (0, 0))) := ⟨(by rw [hw]; exact (by (with_reducible repeat (first | refine blk_drewN ?_ _ | refine blk_drew ?_ | refine blk_alloc ?_ _)); refine blk_put (cs := #[.slice Ao43 x9_10.length co43, .slice none 0 0]) ?_ 1 _ rfl; (with_reducible repeat (first | refine blk_drewN ?_ _ | refine blk_drew ?_ | refine blk_alloc ?_ _)); refine blk_put (cs := #[.slice none 0 0, .slice none 0 0]) ?_ 0 _ rfl; (with_reducible repeat (first | refine blk_drewN ?_ _ | refine blk_drew ?_ | refine blk_alloc ?_ _)); exact BK173.out))⟩; have n3_ : Aside0 (Below w.heap.size w w55) := ⟨(by rw [hw]; exact (by repeat (first | (with_reducible first | exact HB.out | apply below_alloc | apply pw_below_drewN | apply below_drew1 | refine below_set ?_ GE173.out) | exact HB.out)))⟩; clear hw; clear HO_9; clear HO172; clear BK173; clear HB; have HO_9 := n0_; have HO172 := n1_; have BK173 := n2_; have HB := n3_; clear n0_ n1_ n2_ n3_; have hcz56_0 : w55.cell? ⟨gb173, 0, none⟩ = some (.slice Ao43 x9_10.length co43) := (blk_cell BK173.out 0).trans rfl; have hcz56_1 : w55.cell? ⟨gb173, 1, none⟩ = some (.slice Ao52 y170.length co52) := (blk_cell BK173.out 1).trans rfl; have hfz56_0 := blk_frozen BK173.out 0; have hfz56_1 := blk_frozen BK173.out 1) | ((with_reducible refine gate_callee (f := 24) rfl ?_); refine goesL_ (some 67) rfl rfl Try.func24 (by kernel_rfl) rfl #[.agg #[.slice Ao43 x9_10.length co43, .slice Ao52 y170.length co52]] rfl (by (try simp only [List.map_toArray, List.map_cons, List.map_nil]); first | done | rfl | (simp only [List.length_drop, List.length_take]; rfl)) ?_; (with_reducible refine (conf_Check.calls kj41 (fun k_ => some k_ = (.slice Ao43 x9_10.length co43 : Value).ownBlock) _ _ x9_10 (fun k_ => some k_ = (.slice Ao52 y170.length co52 : Value).ownBlock) _ _ y170 t174 _ ?side1 ?side2 A47.out).mono ?_); (case side1 => exact Kd.R_V (Kd.R_tight rfl (Kd.R_types (HO_9.out) BK173.out (by decide)))); (case side2 => exact Kd.R_V (Kd.R_tight rfl (Kd.R_types (HO172.out) BK173.out (by decide)))); rintro e w57 ⟨rfl, hb⟩; refine ⟨_, rfl, ?_⟩; have n0_ := Aside0.mk (Kd.R_below (by (with_reducible repeat (first | apply Kd.R_alloc | apply Kd.R_drewN | apply Kd.R_drew)); exact HO_9.out) hb); have n1_ := Aside0.mk (Kd.R_below (by (with_reducible repeat (first | apply Kd.R_alloc | apply Kd.R_drewN | apply Kd.R_drew)); exact HO172.out) hb); have n2_ := Aside0.mk (blk_below (g := gb173) (o := .cells #[.slice Ao43 x9_10.length co43, .slice Ao52 y170.length co52] 42 (0, 0)) (by (with_reducible repeat (first | refine blk_drewN ?_ _ | refine blk_drew ?_ | refine blk_alloc ?_ _)); exact BK173.out) hb); have n3_ := Aside0.mk (below_step (by repeat (first | (with_reducible first | exact HB.out | apply below_alloc | apply pw_below_drewN | apply below_drew1 | refine below_set ?_ GE173.out) | exact HB.out)) hb); clear HO_9; clear HO172; clear BK173; clear HB; have HO_9 := n0_; have HO172 := n1_; have BK173 := n2_; have HB := n3_; clear n0_ n1_ n2_ n3_; (try clear hb); (try clear hb2); (try clear hk); (try clear hi); have hcz58_0 : w57.cell? ⟨gb173, 0, none⟩ = some (.slice Ao43 x9_10.length co43) := (blk_cell BK173.out 0).trans rfl; have hcz58_1 : w57.cell? ⟨gb173, 1, none⟩ = some (.slice Ao52 y170.length co52) := (blk_cell BK173.out 1).trans rfl; have hfz58_0 := blk_frozen BK173.out 0; have hfz58_1 := blk_frozen BK173.out 1) | (go_at_call 25; (with_reducible refine (conf_Joint.calls _ _ x9_10 _ _ y170 t175 _ ?side1 ?side2 ?side3 ?side4 A49.out).mono ?_); (case side1 => repeat (first | exact (Kd.R_reads' HO_9.out).2.2 | (with_reducible refine Kd.C_alloc ?_ _) | (with_reducible refine Kd.C_drewN ?_ _) | (with_reducible refine Kd.C_drew ?_))); (case side2 => exact (Kd.R_reads' HO_9.out).2.1); (case side3 => repeat (first | exact (Kd.R_reads' HO172.out).2.2 | (with_reducible refine Kd.C_alloc ?_ _) | (with_reducible refine Kd.C_drewN ?_ _) | (with_reducible refine Kd.C_drew ?_))); (case side4 => exact (Kd.R_reads' HO172.out).2.1); rintro e w59 ⟨rfl, hb⟩; have n0_ := Aside0.mk (Kd.R_below (by (with_reducible repeat (first | apply Kd.R_alloc | apply Kd.R_drewN | apply Kd.R_drew)); exact HO_9.out) hb); have n1_ := Aside0.mk (Kd.R_below (by (with_reducible repeat (first | apply Kd.R_alloc | apply Kd.R_drewN | apply Kd.R_drew)); exact HO172.out) hb); have n2_ := Aside0.mk (blk_below (g := gb173) (o := .cells #[.slice Ao43 x9_10.length co43, .slice Ao52 y170.length co52] 42 (0, 0)) (by (with_reducible repeat (first | refine blk_drewN ?_ _ | refine blk_drew ?_ | refine blk_alloc ?_ _)); exact BK173.out) hb); have n3_ := Aside0.mk (below_step (by repeat (first | (with_reducible first | exact HB.out | apply below_alloc | apply pw_below_drewN | apply below_drew1 | refine below_set ?_ GE173.out) | exact HB.out)) hb); clear HO_9; clear HO172; clear BK173; clear HB; have HO_9 := n0_; have HO172 := n1_; have BK173 := n2_; have HB := n3_; clear n0_ n1_ n2_ n3_; (try clear hb); (try clear hb2); (try clear hk); (try clear hi)))
                    go_ret
                    exact ⟨by first | rfl | (simp [errW_none, errW_some] <;> rfl) | (simp [*, errW_none, errW_some] <;> rfl), by repeat (first | (with_reducible first | exact HB.out | apply below_alloc | apply pw_below_drewN | apply below_drew1 | refine below_set ?_ GE173.out) | exact HB.out)⟩
                  · rw [if_neg c48] at H
                    have c48b0 : (t174 == 0) = false := beq_eq_false_iff_ne.mpr c48
                    have c48b1 : (t174 != 0) = true := bne_iff_ne.mpr c48
                    obtain rfl := Option.some.inj H
                    go_wp2_with (first | ((with_reducible refine gate_dst (N := 62) rfl ?_); refine Kd.R_lit (Kd.int .i64) _ 3 ?hg (N := 62) ?hd (xs := ([0] : List Int)) (inner := [.int .i64 0]) (ok := fun _ => True) (okp := fun _ => True) ?hr ?hp (fun _ hk => hk) trivial (Below.refl _ _) (Nat.le_refl _) (by simp) ?_; (case hd => rfl); (case hg => rfl); (case hr => first | (go_simp; done) | (go_simp; rfl)); (case hp => exact (Reps.one (show Kd.M (Kd.int .i64) _ _ _ 0 [.int .i64 0] from rfl) (Reps.none _ _))); intro v171 w60 ho61 hb hg_ hnew_; clear hg_ hnew_; (first | rw [← Ny170.out] at ho61 | (simp only [Int.reduceToNat] at ho61; rw [← Ny170.out] at ho61)); have n0_ := Aside0.mk (Kd.R_elder' (by (with_reducible repeat (first | apply Kd.R_alloc | apply Kd.R_drewN | apply Kd.R_drew)); exact HO_9.out) (Kd.R_base ho61) hb); have n1_ := Aside0.mk (Kd.R_lower (Kd.R_new' ho61 (Kd.R_lt (by (with_reducible repeat (first | apply Kd.R_alloc | apply Kd.R_drewN | apply Kd.R_drew)); exact HO_9.out))) (below_size (by repeat (first | (with_reducible first | exact HB.out | apply below_alloc | apply pw_below_drewN | apply below_drew1) | exact HB.out)))); have n2_ := Aside0.mk (below_step (by repeat (first | (with_reducible first | exact HB.out | apply below_alloc | apply pw_below_drewN | apply below_drew1) | exact HB.out)) hb); clear HO_9; clear HB; have HO_9 := n0_; have HO172 := n1_; have HB := n2_; clear n0_ n1_ n2_; clear hb ho61; obtain ⟨Ao62, co62, eo62⟩ := Kd.R_slice HO172.out; subst eo62) | ((with_reducible refine gate_dst (N := 11) rfl ?_); refine box_event ?hg (N := 11) ?hd (cs := #[.slice none 0 0, .slice none 0 0]) (t := 42) ?hr ?_; (case hd => rfl); (case hg => rfl); (case hr => first | (go_simp; done) | (go_simp; rfl)); intro gb173 hg w63 hbox hb; have n0_ := Aside0.mk (Kd.R_below (by (with_reducible repeat (first | apply Kd.R_alloc | apply Kd.R_drewN | apply Kd.R_drew)); exact HO_9.out) hb); have n1_ := Aside0.mk (Kd.R_below (by (with_reducible repeat (first | apply Kd.R_alloc | apply Kd.R_drewN | apply Kd.R_drew)); exact HO172.out) hb); have n2_ := Aside0.mk (below_step (by repeat (first | (with_reducible first | exact HB.out | apply below_alloc | apply pw_below_drewN | apply below_drew1) | exact HB.out)) hb); have n3_ := Aside0.mk (hbox); have n4_ := Aside0.mk ((by rw [hg]; exact (below_size (by repeat (first | (with_reducible first | exact HB.out | apply below_alloc | apply pw_below_drewN | apply below_drew1) | exact HB.out))) : w.heap.size ≤ gb173)); have n5_ := Aside0.mk ((by rw [hg]; exact (below_size (by repeat (first | (with_reducible first | exact HB.out | apply below_alloc | apply pw_below_drewN | apply below_drew1) | exact HB.out))) : w.heap.size ≤ gb173)); clear HO_9; clear HO172; clear HB; have HO_9 := n0_; have HO172 := n1_; have HB := n2_; have BK173 := n3_; have GW173 := n4_; have GE173 := n5_; clear n0_ n1_ n2_ n3_ n4_ n5_; clear hb hbox hg; have hcz64_0 : w63.cell? ⟨gb173, 0, none⟩ = some (.slice none 0 0) := (blk_cell BK173.out 0).trans rfl; have hcz64_1 : w63.cell? ⟨gb173, 1, none⟩ = some (.slice none 0 0) := (blk_cell BK173.out 1).trans rfl; have hfz64_0 := blk_frozen BK173.out 0; have hfz64_1 := blk_frozen BK173.out 1) | ((with_reducible refine gate_store (t := 42) (p := 11) rfl ?_); refine store_event (t := 42) (p := 11) (v := ?vo_w65) (w1 := ((w63.setCell ⟨gb173, 0, none⟩ (.slice Ao43 x9_10.length co43)).setCell ⟨gb173, 1, none⟩ (.slice Ao62 y170.length co62))) ?hg ?ho ?hn ?hr ?_; (case ho => rfl); (case hg => rfl); (case hn => rfl); (case hr => first | (go_simp; done) | (go_simp; rfl)); intro w65 hw; have n0_ : Aside0 (Kd.R (Kd.int .i64) 3 w65 w.heap.size (fun k_ => some k_ ≠ (.slice Ao62 y170.length co62 : Value).ownBlock) (.slice Ao43 x9_10.length co43) x9_10) := ⟨(by rw [hw]; exact (by (with_reducible repeat (first | apply Kd.R_alloc | apply Kd.R_drewN | apply Kd.R_drew)); exact Kd.R_mono (Kd.R_far (p := ⟨gb173, 1, none⟩) (Kd.R_far (p := ⟨gb173, 0, none⟩) (Kd.R_types HO_9.out BK173.out (by decide)) (fun _ hk => hk.2) (.slice Ao43 x9_10.length co43)) (fun _ hk => hk.2) (.slice Ao62 y170.length co62)) (fun _ hk => hk.1.2)))⟩; have n1_ : Aside0 (Kd.R (Kd.int .i64) 3 w65 w.heap.size (fun k_ => some k_ ≠ (.slice Ao43 x9_10.length co43 : Value).ownBlock) (.slice Ao62 y170.length co62) y170) := ⟨(by rw [hw]; exact (by (with_reducible repeat (first | apply Kd.R_alloc | apply Kd.R_drewN | apply Kd.R_drew)); exact Kd.R_mono (Kd.R_far (p := ⟨gb173, 1, none⟩) (Kd.R_far (p := ⟨gb173, 0, none⟩) (Kd.R_types HO172.out BK173.out (by decide)) (fun _ hk => hk.2) (.slice Ao43 x9_10.length co43)) (fun _ hk => hk.2) (.slice Ao62 y170.length co62)) (fun _ hk => hk.1.2)))⟩; have n2_ : Aside0 (w65.heap[gb173]? = some (.cells #[.slice Ao43 x9_10.length co43, .slice Ao62 y170.length co62] 42 (0, 0))) := ⟨(by rw [hw]; exact (by (with_reducible repeat (first | refine blk_drewN ?_ _ | refine blk_drew ?_ | refine blk_alloc ?_ _)); refine blk_put (cs := #[.slice Ao43 x9_10.length co43, .slice none 0 0]) ?_ 1 _ rfl; (with_reducible repeat (first | refine blk_drewN ?_ _ | refine blk_drew ?_ | refine blk_alloc ?_ _)); refine blk_put (cs := #[.slice none 0 0, .slice none 0 0]) ?_ 0 _ rfl; (with_reducible repeat (first | refine blk_drewN ?_ _ | refine blk_drew ?_ | refine blk_alloc ?_ _)); exact BK173.out))⟩; have n3_ : Aside0 (Below w.heap.size w w65) := ⟨(by rw [hw]; exact (by repeat (first | (with_reducible first | exact HB.out | apply below_alloc | apply pw_below_drewN | apply below_drew1 | refine below_set ?_ GE173.out) | exact HB.out)))⟩; clear hw; clear HO_9; clear HO172; clear BK173; clear HB; have HO_9 := n0_; have HO172 := n1_; have BK173 := n2_; have HB := n3_; clear n0_ n1_ n2_ n3_; have hcz66_0 : w65.cell? ⟨gb173, 0, none⟩ = some (.slice Ao43 x9_10.length co43) := (blk_cell BK173.out 0).trans rfl; have hcz66_1 : w65.cell? ⟨gb173, 1, none⟩ = some (.slice Ao62 y170.length co62) := (blk_cell BK173.out 1).trans rfl; have hfz66_0 := blk_frozen BK173.out 0; have hfz66_1 := blk_frozen BK173.out 1) | ((with_reducible refine gate_callee (f := 24) rfl ?_); refine goesL_ (some 67) rfl rfl Try.func24 (by kernel_rfl) rfl #[.agg #[.slice Ao43 x9_10.length co43, .slice Ao62 y170.length co62]] rfl (by (try simp only [List.map_toArray, List.map_cons, List.map_nil]); first | done | rfl | (simp only [List.length_drop, List.length_take]; rfl)) ?_; (with_reducible refine (conf_Check.calls kj41 (fun k_ => some k_ = (.slice Ao43 x9_10.length co43 : Value).ownBlock) _ _ x9_10 (fun k_ => some k_ = (.slice Ao62 y170.length co62 : Value).ownBlock) _ _ y170 t174 _ ?side1 ?side2 A47.out).mono ?_); (case side1 => exact Kd.R_V (Kd.R_tight rfl (Kd.R_types (HO_9.out) BK173.out (by decide)))); (case side2 => exact Kd.R_V (Kd.R_tight rfl (Kd.R_types (HO172.out) BK173.out (by decide)))); rintro e w67 ⟨rfl, hb⟩; refine ⟨_, rfl, ?_⟩; have n0_ := Aside0.mk (Kd.R_below (by (with_reducible repeat (first | apply Kd.R_alloc | apply Kd.R_drewN | apply Kd.R_drew)); exact HO_9.out) hb); have n1_ := Aside0.mk (Kd.R_below (by (with_reducible repeat (first | apply Kd.R_alloc | apply Kd.R_drewN | apply Kd.R_drew)); exact HO172.out) hb); have n2_ := Aside0.mk (blk_below (g := gb173) (o := .cells #[.slice Ao43 x9_10.length co43, .slice Ao62 y170.length co62] 42 (0, 0)) (by (with_reducible repeat (first | refine blk_drewN ?_ _ | refine blk_drew ?_ | refine blk_alloc ?_ _)); exact BK173.out) hb); have n3_ := Aside0.mk (below_step (by repeat (first | (with_reducible first | exact HB.out | apply below_alloc | apply pw_below_drewN | apply below_drew1 | refine below_set ?_ GE173.out) | exact HB.out)) hb); clear HO_9; clear HO172; clear BK173; clear HB; have HO_9 := n0_; have HO172 := n1_; have BK173 := n2_; have HB := n3_; clear n0_ n1_ n2_ n3_; (try clear hb); (try clear hb2); (try clear hk); (try clear hi)))
                    go_ret
                    exact ⟨by first | rfl | (simp [errW_none, errW_some] <;> rfl) | (simp [*, errW_none, errW_some] <;> rfl), by repeat (first | (with_reducible first | exact HB.out | apply below_alloc | apply pw_below_drewN | apply below_drew1 | refine below_set ?_ GE173.out) | exact HB.out)⟩
                · rw [if_neg c46] at H
                  have c46b0 : (x10_41 == 2) = false := beq_eq_false_iff_ne.mpr c46
                  have c46b1 : (x10_41 != 2) = true := bne_iff_ne.mpr c46
                  replace H := Option.bind_eq_some_iff.mp H
                  obtain ⟨t176, A680, H⟩ := H
                  replace H : (some (t176 == x10_41)) = some r := H
                  have A68 := Aside0.mk A680
                  clear A680
                  obtain rfl := Option.some.inj H
                  go_wp2_with (first | ((with_reducible refine gate_dst (N := 62) rfl ?_); refine Kd.R_lit (Kd.int .i64) _ 3 ?hg (N := 62) ?hd (xs := ([0] : List Int)) (inner := [.int .i64 0]) (ok := fun _ => True) (okp := fun _ => True) ?hr ?hp (fun _ hk => hk) trivial (Below.refl _ _) (Nat.le_refl _) (by simp) ?_; (case hd => rfl); (case hg => rfl); (case hr => first | (go_simp; done) | (go_simp; rfl)); (case hp => exact (Reps.one (show Kd.M (Kd.int .i64) _ _ _ 0 [.int .i64 0] from rfl) (Reps.none _ _))); intro v171 w69 ho70 hb hg_ hnew_; clear hg_ hnew_; (first | rw [← Ny170.out] at ho70 | (simp only [Int.reduceToNat] at ho70; rw [← Ny170.out] at ho70)); have n0_ := Aside0.mk (Kd.R_elder' (by (with_reducible repeat (first | apply Kd.R_alloc | apply Kd.R_drewN | apply Kd.R_drew)); exact HO_9.out) (Kd.R_base ho70) hb); have n1_ := Aside0.mk (Kd.R_lower (Kd.R_new' ho70 (Kd.R_lt (by (with_reducible repeat (first | apply Kd.R_alloc | apply Kd.R_drewN | apply Kd.R_drew)); exact HO_9.out))) (below_size (by repeat (first | (with_reducible first | exact HB.out | apply below_alloc | apply pw_below_drewN | apply below_drew1) | exact HB.out)))); have n2_ := Aside0.mk (below_step (by repeat (first | (with_reducible first | exact HB.out | apply below_alloc | apply pw_below_drewN | apply below_drew1) | exact HB.out)) hb); clear HO_9; clear HB; have HO_9 := n0_; have HO172 := n1_; have HB := n2_; clear n0_ n1_ n2_; clear hb ho70; obtain ⟨Ao71, co71, eo71⟩ := Kd.R_slice HO172.out; subst eo71) | ((with_reducible refine gate_dst (N := 11) rfl ?_); refine box_event ?hg (N := 11) ?hd (cs := #[.slice none 0 0, .slice none 0 0]) (t := 42) ?hr ?_; (case hd => rfl); (case hg => rfl); (case hr => first | (go_simp; done) | (go_simp; rfl)); intro gb173 hg w72 hbox hb; have n0_ := Aside0.mk (Kd.R_below (by (with_reducible repeat (first | apply Kd.R_alloc | apply Kd.R_drewN | apply Kd.R_drew)); exact HO_9.out) hb); have n1_ := Aside0.mk (Kd.R_below (by (with_reducible repeat (first | apply Kd.R_alloc | apply Kd.R_drewN | apply Kd.R_drew)); exact HO172.out) hb); have n2_ := Aside0.mk (below_step (by repeat (first | (with_reducible first | exact HB.out | apply below_alloc | apply pw_below_drewN | apply below_drew1) | exact HB.out)) hb); have n3_ := Aside0.mk (hbox); have n4_ := Aside0.mk ((by rw [hg]; exact (below_size (by repeat (first | (with_reducible first | exact HB.out | apply below_alloc | apply pw_below_drewN | apply below_drew1) | exact HB.out))) : w.heap.size ≤ gb173)); have n5_ := Aside0.mk ((by rw [hg]; exact (below_size (by repeat (first | (with_reducible first | exact HB.out | apply below_alloc | apply pw_below_drewN | apply below_drew1) | exact HB.out))) : w.heap.size ≤ gb173)); clear HO_9; clear HO172; clear HB; have HO_9 := n0_; have HO172 := n1_; have HB := n2_; have BK173 := n3_; have GW173 := n4_; have GE173 := n5_; clear n0_ n1_ n2_ n3_ n4_ n5_; clear hb hbox hg; have hcz73_0 : w72.cell? ⟨gb173, 0, none⟩ = some (.slice none 0 0) := (blk_cell BK173.out 0).trans rfl; have hcz73_1 : w72.cell? ⟨gb173, 1, none⟩ = some (.slice none 0 0) := (blk_cell BK173.out 1).trans rfl; have hfz73_0 := blk_frozen BK173.out 0; have hfz73_1 := blk_frozen BK173.out 1) | ((with_reducible refine gate_store (t := 42) (p := 11) rfl ?_); refine store_event (t := 42) (p := 11) (v := ?vo_w74) (w1 := ((w72.setCell ⟨gb173, 0, none⟩ (.slice Ao43 x9_10.length co43)).setCell ⟨gb173, 1, none⟩ (.slice Ao71 y170.length co71))) ?hg ?ho ?hn ?hr ?_; (case ho => rfl); (case hg => rfl); (case hn => rfl); (case hr => first | (go_simp; done) | (go_simp; rfl)); intro w74 hw; have n0_ : Aside0 (Kd.R (Kd.int .i64) 3 w74 w.heap.size (fun k_ => some k_ ≠ (.slice Ao71 y170.length co71 : Value).ownBlock) (.slice Ao43 x9_10.length co43) x9_10) := ⟨(by rw [hw]; exact (by (with_reducible repeat (first | apply Kd.R_alloc | apply Kd.R_drewN | apply Kd.R_drew)); exact Kd.R_mono (Kd.R_far (p := ⟨gb173, 1, none⟩) (Kd.R_far (p := ⟨gb173, 0, none⟩) (Kd.R_types HO_9.out BK173.out (by decide)) (fun _ hk => hk.2) (.slice Ao43 x9_10.length co43)) (fun _ hk => hk.2) (.slice Ao71 y170.length co71)) (fun _ hk => hk.1.2)))⟩; have n1_ : Aside0 (Kd.R (Kd.int .i64) 3 w74 w.heap.size (fun k_ => some k_ ≠ (.slice Ao43 x9_10.length co43 : Value).ownBlock) (.slice Ao71 y170.length co71) y170) := ⟨(by rw [hw]; exact (by (with_reducible repeat (first | apply Kd.R_alloc | apply Kd.R_drewN | apply Kd.R_drew)); exact Kd.R_mono (Kd.R_far (p := ⟨gb173, 1, none⟩) (Kd.R_far (p := ⟨gb173, 0, none⟩) (Kd.R_types HO172.out BK173.out (by decide)) (fun _ hk => hk.2) (.slice Ao43 x9_10.length co43)) (fun _ hk => hk.2) (.slice Ao71 y170.length co71)) (fun _ hk => hk.1.2)))⟩; have n2_ : Aside0 (w74.heap[gb173]? = some (.cells #[.slice Ao43 x9_10.length co43, .slice Ao71 y170.length co71] 42 (0, 0))) := ⟨(by rw [hw]; exact (by (with_reducible repeat (first | refine blk_drewN ?_ _ | refine blk_drew ?_ | refine blk_alloc ?_ _)); refine blk_put (cs := #[.slice Ao43 x9_10.length co43, .slice none 0 0]) ?_ 1 _ rfl; (with_reducible repeat (first | refine blk_drewN ?_ _ | refine blk_drew ?_ | refine blk_alloc ?_ _)); refine blk_put (cs := #[.slice none 0 0, .slice none 0 0]) ?_ 0 _ rfl; (with_reducible repeat (first | refine blk_drewN ?_ _ | refine blk_drew ?_ | refine blk_alloc ?_ _)); exact BK173.out))⟩; have n3_ : Aside0 (Below w.heap.size w w74) := ⟨(by rw [hw]; exact (by repeat (first | (with_reducible first | exact HB.out | apply below_alloc | apply pw_below_drewN | apply below_drew1 | refine below_set ?_ GE173.out) | exact HB.out)))⟩; clear hw; clear HO_9; clear HO172; clear BK173; clear HB; have HO_9 := n0_; have HO172 := n1_; have BK173 := n2_; have HB := n3_; clear n0_ n1_ n2_ n3_; have hcz75_0 : w74.cell? ⟨gb173, 0, none⟩ = some (.slice Ao43 x9_10.length co43) := (blk_cell BK173.out 0).trans rfl; have hcz75_1 : w74.cell? ⟨gb173, 1, none⟩ = some (.slice Ao71 y170.length co71) := (blk_cell BK173.out 1).trans rfl; have hfz75_0 := blk_frozen BK173.out 0; have hfz75_1 := blk_frozen BK173.out 1) | ((with_reducible refine gate_callee (f := 24) rfl ?_); refine goesL_ (some 75) rfl rfl Try.func24 (by kernel_rfl) rfl #[.agg #[.slice Ao43 x9_10.length co43, .slice Ao71 y170.length co71]] rfl (by (try simp only [List.map_toArray, List.map_cons, List.map_nil]); first | done | rfl | (simp only [List.length_drop, List.length_take]; rfl)) ?_; (with_reducible refine (conf_Check.calls kj41 (fun k_ => some k_ = (.slice Ao43 x9_10.length co43 : Value).ownBlock) _ _ x9_10 (fun k_ => some k_ = (.slice Ao71 y170.length co71 : Value).ownBlock) _ _ y170 t176 _ ?side1 ?side2 A68.out).mono ?_); (case side1 => exact Kd.R_V (Kd.R_tight rfl (Kd.R_types (HO_9.out) BK173.out (by decide)))); (case side2 => exact Kd.R_V (Kd.R_tight rfl (Kd.R_types (HO172.out) BK173.out (by decide)))); rintro e w76 ⟨rfl, hb⟩; refine ⟨_, rfl, ?_⟩; have n0_ := Aside0.mk (Kd.R_below (by (with_reducible repeat (first | apply Kd.R_alloc | apply Kd.R_drewN | apply Kd.R_drew)); exact HO_9.out) hb); have n1_ := Aside0.mk (Kd.R_below (by (with_reducible repeat (first | apply Kd.R_alloc | apply Kd.R_drewN | apply Kd.R_drew)); exact HO172.out) hb); have n2_ := Aside0.mk (blk_below (g := gb173) (o := .cells #[.slice Ao43 x9_10.length co43, .slice Ao71 y170.length co71] 42 (0, 0)) (by (with_reducible repeat (first | refine blk_drewN ?_ _ | refine blk_drew ?_ | refine blk_alloc ?_ _)); exact BK173.out) hb); have n3_ := Aside0.mk (below_step (by repeat (first | (with_reducible first | exact HB.out | apply below_alloc | apply pw_below_drewN | apply below_drew1 | refine below_set ?_ GE173.out) | exact HB.out)) hb); clear HO_9; clear HO172; clear BK173; clear HB; have HO_9 := n0_; have HO172 := n1_; have BK173 := n2_; have HB := n3_; clear n0_ n1_ n2_ n3_; (try clear hb); (try clear hb2); (try clear hk); (try clear hi)))
                  go_ret
                  exact ⟨by first | rfl | (simp [errW_none, errW_some] <;> rfl) | (simp [*, errW_none, errW_some] <;> rfl), by repeat (first | (with_reducible first | exact HB.out | apply below_alloc | apply pw_below_drewN | apply below_drew1 | refine below_set ?_ GE173.out) | exact HB.out)⟩
              · replace c45 := Bool.eq_false_iff.mpr c45
                subst c45
                have H1 : ((conf_Check.f kj41 ([] : List Int) x9_10).bind fun t177 => (some (t177 == x10_41))) = some r := by rw [if_neg (show ¬ (false = true) by decide)] at H; exact H
                clear H
                have H := H1
                clear H1
                replace H := Option.bind_eq_some_iff.mp H
                obtain ⟨t177, A770, H⟩ := H
                replace H : (some (t177 == x10_41)) = some r := H
                have A77 := Aside0.mk A770
                clear A770
                obtain rfl := Option.some.inj H
                go_wp2_with (first | ((with_reducible refine gate_callee (f := 24) rfl ?_); refine goesL_ (some 80) rfl rfl Try.func24 (by kernel_rfl) rfl #[.agg #[.slice none 0 0, .slice Ao43 x9_10.length co43]] rfl (by (try simp only [List.map_toArray, List.map_cons, List.map_nil]); first | done | rfl | (simp only [List.length_drop, List.length_take]; rfl)) ?_; (refine (conf_Check.calls kj41 (fun k_ => False) _ _ ([] : List Int) (fun k_ => some k_ = (.slice Ao43 x9_10.length co43 : Value).ownBlock) _ _ x9_10 t177 _ ?side1 ?side2 A77.out).mono ?_); (case side1 => exact Kd.V_nil _ _ _ _ _); (case side2 => exact Kd.R_V (Kd.R_tight rfl (HO_9.out))); rintro e w78 ⟨rfl, hb⟩; refine ⟨_, rfl, ?_⟩; have n0_ := Aside0.mk (Kd.R_below (by (with_reducible repeat (first | apply Kd.R_alloc | apply Kd.R_drewN | apply Kd.R_drew)); exact HO_9.out) hb); have n1_ := Aside0.mk (below_step (by repeat (first | (with_reducible first | exact HB.out | apply below_alloc | apply pw_below_drewN | apply below_drew1) | exact HB.out)) hb); clear HO_9; clear HB; have HO_9 := n0_; have HB := n1_; clear n0_ n1_; (try clear hb); (try clear hb2); (try clear hk); (try clear hi)))
                go_ret
                exact ⟨by first | rfl | (simp [errW_none, errW_some] <;> rfl) | (simp [*, errW_none, errW_some] <;> rfl), by repeat (first | (with_reducible first | exact HB.out | apply below_alloc | apply pw_below_drewN | apply below_drew1) | exact HB.out)⟩
    · rw [if_neg c9] at H
      exact absurd H (by simp)
  · replace c6 := Bool.eq_false_iff.mpr c6
    subst c6
    have H1 : (some false) = some r := by rw [if_neg (show ¬ (false = true) by decide)] at H; exact H
    clear H
    have H := H1
    clear H1
    obtain rfl := Option.some.inj H
    go_enter Try.func7, Try.ntmps7
    go_wp2_with (first | ((with_reducible refine gate_callee (f := 20) rfl ?_); refine goesL_ (some 12) rfl rfl Try.func20 (by kernel_rfl) rfl #[] rfl (by (try simp only [List.map_toArray, List.map_cons, List.map_nil]); first | done | rfl | (simp only [List.length_drop, List.length_take]; rfl)) ?_; (with_reducible refine (synodallaw8_known.calls k  false _ A5.out).mono ?_); rintro e w79 ⟨rfl, hb⟩; refine ⟨_, rfl, ?_⟩; have n0_ := Aside0.mk (below_step (by repeat (first | (with_reducible first | exact HB.out | apply below_alloc | apply pw_below_drewN | apply below_drew1) | exact HB.out)) hb); clear HB; have HB := n0_; clear n0_; (try clear hb); (try clear hb2); (try clear hk); (try clear hi)))
    go_ret
    exact ⟨by first | rfl | (simp [errW_none, errW_some] <;> rfl) | (simp [*, errW_none, errW_some] <;> rfl), by repeat (first | (with_reducible first | exact HB.out | apply below_alloc | apply pw_below_drewN | apply below_drew1) | exact HB.out)⟩

/-- THE ONE PURE STATEMENT of synodallaw8_ConfChecks: yours. -/
def synodallaw8_ConfChecks.Pure : Prop := ∀ (a0 : Int) (a1 : Int) (a2 : Int) (a3 : Bool), (Lit.int .i64 a0).wf = true → (Lit.int .i64 a1).wf = true → (Lit.int .i64 a2).wf = true → ∃ k, synodallaw8_ConfChecks.f k a0 a1 a2 a3 = some true
theorem synodallaw8_ConfChecks.walk (P : synodallaw8_ConfChecks.Pure) (a0 : Int) (a1 : Int) (a2 : Int) (a3 : Bool) (w : World) (w0 : (Lit.int .i64 a0).wf = true) (w1 : (Lit.int .i64 a1).wf = true) (w2 : (Lit.int .i64 a2).wf = true) :
    Calls Try.prog 7 #[.int .i64 a0, .int .i64 a1, .int .i64 a2, .bool a3] w fun e w' => e = .returned (.bool true) ∧ Below w.heap.size w w' := by
  obtain ⟨k, h⟩ := P a0 a1 a2 a3 w0 w1 w2
  refine (synodallaw8_ConfChecks.calls k a0 a1 a2 a3 true w h).mono ?_
  rintro e w' ⟨rfl, hd⟩
  exact ⟨rfl, hd⟩

end Go.Proofs.Ytimeknpdgloenaa.XConfChecks
