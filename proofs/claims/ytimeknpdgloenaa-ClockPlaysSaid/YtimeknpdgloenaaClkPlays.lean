/- The walks of the document's clock. -/
import Derived.Test.YtimeknpdgloenaaClkApart
import Derived.StillTailTactics
import Derived.Deep.RegionHeld3
namespace Go.Proofs.Ytimeknpdgloenaa.Clk
open Go.RowKit Go.Proofs.YtimeknpdgloenaaW.PrintWords

theorem rwait_calls (d : Int) (w : World) : Calls Try.prog 38 #[.int .i64 d] w fun e w' => e = .returned (.int .i64 (wt d)) ∧ w = w' := by
  obtain ⟨h1, h2⟩ := tm_bd d
  have HW := Lib.hid (wt_eq d)
  by_cases h : Int.tmod d 10 < 0
  · go_enter Try.func38, Try.ntmps38
    go_wp2
    go_ret
    refine ⟨?_, rfl⟩
    rw [HW.out, show Int.tmod d 10 % 10 = Int.tmod d 10 + 10 from by omega]
    rfl
  · go_enter Try.func38, Try.ntmps38
    go_wp2
    go_ret
    refine ⟨?_, rfl⟩
    rw [HW.out, show Int.tmod d 10 % 10 = Int.tmod d 10 from by omega]
    rfl

theorem rnew_abs (d : Int) (w : World) : Calls Try.prog 14 #[.int .i64 d] w fun e w' => e = .returned (.pointer (some ⟨w.heap.size, 0, none⟩)) ∧ Cl 37 w' w.heap.size (wt d) ∧ Below w.heap.size w w' := by
  go_enter Try.func14, Try.ntmps14
  go_wp2_with (go_at_call 38; refine (rwait_calls _ _).mono ?_; rintro e w' ⟨rfl, rfl⟩)
  go_ret
  exact ⟨rfl, Cl.new _ _ _, (Below.refl _ _).alloc (Nat.le_refl _) _⟩

theorem rreset_calls (g : Nat) (n d : Int) (w : World) (hb : Cl 37 w g n) :
    Calls Try.prog 16 #[.pointer (some ⟨g, 0, none⟩), .int .i64 d] w fun e w' => e = .returned (.tuple #[]) ∧ Cl 37 w' g (wt d) ∧ Only g w w' := by
  have hc := hb.cell
  have hf := hb.frozen
  go_enter Try.func16, Try.ntmps16
  go_wp2_with (go_at_call 38; refine (rwait_calls _ _).mono ?_; rintro e w' ⟨rfl, rfl⟩)
  go_end0
  exact ⟨rfl, hb.set _, (Only.refl _ _).set _ _⟩

theorem rtick_no (g : Nat) (n d : Int) (w : World) (hb : Cl 37 w g n) (h1 : 1 < n) (h2 : n ≤ 19) :
    Calls Try.prog 18 #[.pointer (some ⟨g, 0, none⟩), .int .i64 d] w fun e w' => e = .returned (.bool false) ∧ Cl 37 w' g (n - 1) ∧ Only g w w' := by
  have hc := hb.cell
  have hf := hb.frozen
  have h3 : (n - 1 == 0) = false := beq_eq_false_iff_ne.mpr (by omega)
  go_enter Try.func18, Try.ntmps18
  go_wp2
  go_ret
  exact ⟨rfl, hb.set _, (Only.refl _ _).set _ _⟩

theorem rtick_yes (g : Nat) (n d : Int) (w : World) (hb : Cl 37 w g n) (h1 : n = 1) :
    Calls Try.prog 18 #[.pointer (some ⟨g, 0, none⟩), .int .i64 d] w fun e w' => e = .returned (.bool true) ∧ Cl 37 w' g (wt d) ∧ Only g w w' := by
  subst h1
  have hc := hb.cell
  have hf := hb.frozen
  go_enter Try.func18, Try.ntmps18
  go_wp2_with (go_at_call 38; refine (rwait_calls _ _).mono ?_; rintro e w' ⟨rfl, rfl⟩)
  go_ret
  exact ⟨rfl, (hb.set _).set _, ((Only.refl _ _).set _ _).set _ _⟩

/-! ### ClockPlays -/
set_option maxRecDepth 100000 in
set_option maxHeartbeats 2000000 in
theorem plays_calls (draw : Int) (A1 : Option Addr) (c1 : Nat) (l1 : List Int) (A2 : Option Addr) (c2 : Nat) (l2 : List Bool) (w : World)
    (hr1 : ReadsInt w .i64 A1 l1.length l1) (hr2 : ReadsOf Value.bool false w A2 l2.length l2) :
    Calls Try.prog 3 #[.int .i64 draw, .slice A1 l1.length c1, .slice A2 l2.length c2] w fun e w' => e = .returned (.bool true) ∧ Below w.heap.size w w' := by
  have hwd := wt_bd draw
  have HR1 := Aside0.mk hr1
  have HR2 := Aside0.mk hr2
  have hm1 := hr1.2.1
  have hm2 := hr2.2.1
  clear hr1 hr2
  go_enter Try.func3, Try.ntmps3
  go_wp2_with fail
  refine (known_abs _).mono ?_
  rintro e w1 ⟨rfl, hb1⟩
  have HB1 := Aside0.mk hb1
  clear hb1
  go_wp2_with fail
  refine (new_abs _ _).mono ?_
  rintro e w2 ⟨rfl, hx, hb⟩
  have HX := Aside0.mk hx
  have HB2 := Aside0.mk (below_step HB1.out hb)
  clear hb hx
  go_wp2_with fail
  refine (rnew_abs _ _).mono ?_
  rintro e w3 ⟨rfl, hy, hb⟩
  have HX3 := Aside0.mk (HX.out.below hb)
  have HY := Aside0.mk hy
  have HB3 := Aside0.mk (below_step HB2.out hb)
  have hlt : w1.heap.size < w2.heap.size := HX.out.lt
  have hg1 : w.heap.size ≤ w1.heap.size := HB1.out.size
  clear hb hy HX HB2 HB1
  generalize w1.heap.size = g1 at *
  generalize w2.heap.size = g2 at *
  go_wp2_with fail
  go_loopw [9, 10] (fun v9 v10 wr => ∃ (i : Nat) (s n : Int), i ≤ l1.length ∧ v10 = .int .i64 i ∧ v9 = .int .i64 s ∧ 0 ≤ s ∧ 1 ≤ n ∧ 10 ≤ s + n ∧ s + n ≤ 19 ∧ Aside0 (Cl 33 wr g1 n) ∧ Aside0 (Cl 37 wr g2 n) ∧ Aside0 (Below w.heap.size w wr)) (fun _ i _ => (l1.length - intOf i).toNat)
  case atStart => exact ⟨0, 0, wt draw, by omega, rfl, rfl, by omega, by omega, by omega, by omega, HX3, HY, HB3⟩
  case round =>
    obtain ⟨i, s, n, hi, rfl, rfl, hs, hn1, hn2, hn3, HC, HD, HW⟩ := hrel
    by_cases hl : i < l1.length
    · by_cases h2 : (i : Int) < 200
      · obtain ⟨ad, e1, hcd0⟩ := HR1.out.at_ i (by omega) (by omega)
        cases e1
        rw [Int.toNat_natCast] at hcd0
        have HCD : Aside0 (∀ W, Below w.heap.size w W → W.cell? (ad.add i) = some (.int .i64 (rd l1 i))) := ⟨fun W hW => (hW.cell (World.block_lt_of_cell? w _ hcd0)).trans hcd0⟩
        clear hcd0
        generalize rd l1 i = dd at *
        have hdd := wt_bd dd
        have p0 : (0 : Int) ≤ (i : Int) := by omega
        have q0 : (i : Int) < (l1.length : Int) := by omega
        by_cases hz : i < l2.length ∧ rdOf false l2 i = true
        · obtain ⟨hz, hbb⟩ := hz
          obtain ⟨ad2, e2, hce⟩ := (HR2.out.below HW.out).at_ i (by omega) (by omega)
          cases e2
          rw [Int.toNat_natCast, hbb] at hce
          have q2 : (i : Int) < (l2.length : Int) := by omega
          have hcd := HCD.out _ HW.out
          go_wp2_with fail
          go_still_tail 7, (by kernel_rfl)
          change wpList _ _ _ _ _ (World.drew wr)
          have HC1 : Aside0 (Cl 33 wr.drew g1 n) := ⟨HC.out⟩
          have HD1 : Aside0 (Cl 37 wr.drew g2 n) := ⟨HD.out⟩
          have HW1 : Aside0 (Below w.heap.size w wr.drew) := ⟨HW.out.drew⟩
          clear HC HD HW hcd hce
          generalize wr.drew = wd at *
          go_wp2_with (go_at_call 15; refine (reset_calls _ 33 _ _ _ HC1.out).mono ?_; rintro e w5 ⟨rfl, hc1, ho1⟩; have HC2 := Aside0.mk hc1; have HD2 := Aside0.mk (HD1.out.only ho1 (by omega)); have HW2 := Aside0.mk (ho1.below HW1.out (by omega)); clear hc1 ho1; have hcd := HCD.out _ HW2.out)
          go_wp2_with (go_at_call 16; refine (rreset_calls _ _ _ _ HD2.out).mono ?_; rintro e w6 ⟨rfl, hc1, ho1⟩; have HD3 := Aside0.mk hc1; have HC3 := Aside0.mk (HC2.out.only ho1 (by omega)); have HW3 := Aside0.mk (ho1.below HW2.out (by omega)); clear hc1 ho1; clear hcd)
          have d1 : decide (wt dd < 1) = false := decide_eq_false (by omega)
          have d2 : decide (19 < wt dd) = false := decide_eq_false (by omega)
          have hxc := HD3.out.cell
          go_quiet ((with_reducible exact left_q HC3.out _))
          go_wp2_with fail
          go_roundw
          case rel => exact ⟨i + 1, 0, wt dd, by omega, by go_num, rfl, by omega, by omega, by omega, by omega, HC3, HD3, ⟨pw_below_drewN HW3.out _⟩⟩
          case measure => simp [intOf]; omega
        · have hcd := HCD.out _ HW.out
          have hor : (∃ ad2, A2 = some ad2 ∧ wr.cell? (ad2.add i) = some (.bool false) ∧ (i : Int) < (l2.length : Int)) ∨ ¬ (i : Int) < (l2.length : Int) := by
            by_cases hz1 : i < l2.length
            · obtain ⟨ad2, e2, hce⟩ := (HR2.out.below HW.out).at_ i (by omega) (by omega)
              have hbb : rdOf false l2 i = false := by
                cases h : rdOf false l2 i
                · rfl
                · exact absurd ⟨hz1, h⟩ hz
              rw [Int.toNat_natCast, hbb] at hce
              exact .inl ⟨ad2, e2, hce, by omega⟩
            · exact .inr (by omega)
          clear hz
          have HCd : Aside0 (Cl 33 wr.drew g1 n) := ⟨HC.out⟩
          have HDd : Aside0 (Cl 37 wr.drew g2 n) := ⟨HD.out⟩
          have HWd : Aside0 (Below w.heap.size w wr.drew) := ⟨HW.out.drew⟩
          clear HC HD HW
          rcases hor with ⟨ad2, e2, hce, q2⟩ | q2
          all_goals try cases e2
          all_goals
            by_cases hn : n = 1
            · subst hn
              go_wp2_with fail
              go_region_held3 (fun W => W.cell? (ad.add i) = some (.int .i64 dd)) (first | exact hcd | exact hcd2 | exact hcd3 | go_keep) (first | (go_at_call 17; refine (tick_yes g1 1 dd _ HCd.out rfl).mono ?_; rintro e w5 ⟨rfl, hc1, ho1⟩; have HC2 := Aside0.mk hc1; have HD2 := Aside0.mk (HDd.out.only ho1 (by omega)); have HW2 := Aside0.mk (ho1.below HWd.out (by omega)); clear hc1 ho1; have hcd2 := HCD.out _ HW2.out) | (go_at_call 18; refine (rtick_yes g2 1 dd _ HD2.out rfl).mono ?_; rintro e w6 ⟨rfl, hc1, ho1⟩; have HD3 := Aside0.mk hc1; have HC3 := Aside0.mk (HC2.out.only ho1 (by omega)); have HW3 := Aside0.mk (ho1.below HW2.out (by omega)); clear hc1 ho1; have hcd3 := HCD.out _ HW3.out))
              have d3 : decide (s + 1 < 10) = false := decide_eq_false (by omega)
              have d4 : decide (19 < s + 1) = false := decide_eq_false (by omega)
              have d1 : decide (wt dd < 1) = false := decide_eq_false (by omega)
              have d2 : decide (19 < wt dd) = false := decide_eq_false (by omega)
              have hxc := HD3.out.cell
              clear hcd hcd2 hcd3
              go_wp2_with fail
              go_quiet ((with_reducible exact left_q HC3.out _))
              go_wp2_with fail
              go_roundw
              case rel => exact ⟨i + 1, 0, wt dd, by omega, by go_num, rfl, by omega, by omega, by omega, by omega, HC3, HD3, ⟨pw_below_drewN HW3.out _⟩⟩
              case measure => simp [intOf]; omega
            · go_wp2_with fail
              go_region_held3 (fun W => W.cell? (ad.add i) = some (.int .i64 dd)) (first | exact hcd | exact hcd2 | exact hcd3 | go_keep) (first | (go_at_call 17; refine (tick_no g1 n dd _ HCd.out (by omega) (by omega)).mono ?_; rintro e w5 ⟨rfl, hc1, ho1⟩; have HC2 := Aside0.mk hc1; have HD2 := Aside0.mk (HDd.out.only ho1 (by omega)); have HW2 := Aside0.mk (ho1.below HWd.out (by omega)); clear hc1 ho1; have hcd2 := HCD.out _ HW2.out) | (go_at_call 18; refine (rtick_no g2 n dd _ HD2.out (by omega) (by omega)).mono ?_; rintro e w6 ⟨rfl, hc1, ho1⟩; have HD3 := Aside0.mk hc1; have HC3 := Aside0.mk (HC2.out.only ho1 (by omega)); have HW3 := Aside0.mk (ho1.below HW2.out (by omega)); clear hc1 ho1; have hcd3 := HCD.out _ HW3.out))
              have d1 : decide (n - 1 < 1) = false := decide_eq_false (by omega)
              have d2 : decide (19 < n - 1) = false := decide_eq_false (by omega)
              have hxc := HD3.out.cell
              clear hcd hcd2 hcd3
              go_wp2_with fail
              go_quiet ((with_reducible exact left_q HC3.out _))
              go_wp2_with fail
              go_roundw
              case rel => exact ⟨i + 1, s + 1, n - 1, by omega, by go_num, rfl, by omega, by omega, by omega, by omega, HC3, HD3, ⟨pw_below_drewN HW3.out _⟩⟩
              case measure => simp [intOf]; omega
      · go_wp2
        go_ret
        exact ⟨rfl, HW.out⟩
    · go_wp2
      go_ret
      exact ⟨rfl, HW.out⟩

theorem ClockPlays_walk (a0 : Int) (A1 : Option Addr) (c1 : Nat) (l1 : List Int) (A2 : Option Addr) (c2 : Nat) (l2 : List Bool) (W : World) (_w0 : (Lit.int .i64 a0).wf = true)
    (h1 : Kd.C (Kd.int .i64) W A1 l1.length l1) (_hc1 : l1.length ≤ c1) (_hm1 : l1.length ≤ maxLen) (_ho1 : ∀ a ∈ l1, (Lit.int .i64 a).wf = true)
    (h2 : Kd.C Kd.bool W A2 l2.length l2) (_hc2 : l2.length ≤ c2) (_hm2 : l2.length ≤ maxLen) (_ho2 : ∀ a ∈ l2, True) :
    Calls Try.prog 3 #[.int .i64 a0, .slice A1 l1.length c1, .slice A2 l2.length c2] W fun e w' => e = .returned (.bool true) ∧ Below W.heap.size W w' :=
  plays_calls a0 A1 c1 l1 A2 c2 l2 W (Kd.reads_of_C (d := (0 : Int)) (h1 := fun _ => rfl) h1) (Kd.reads_of_C (d := false) (h1 := fun _ => rfl) h2)
end Go.Proofs.Ytimeknpdgloenaa.Clk
