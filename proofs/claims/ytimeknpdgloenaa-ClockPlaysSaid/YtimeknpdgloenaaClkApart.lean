/- The walk of ClockApart. -/
import Derived.Test.YtimeknpdgloenaaClk
import Derived.Deep.QuietTactic
import Derived.BigQuiet
namespace Go.Proofs.Ytimeknpdgloenaa.Clk
open Go.RowKit Go.Proofs.YtimeknpdgloenaaW.PrintWords

/-! ### ClockApart -/
theorem left_q {g t : Nat} {n : Int} {w : World} (hb : Cl t w g n) (m : Nat) : Calls Try.prog 19 #[.pointer (some ⟨g, 0, none⟩)] (w.drewN m) fun e w' => e = .returned (.int .i64 n) ∧ ∃ m', w' = w.drewN m' :=
  (left_calls g t n (w.drewN m) hb).mono fun _ _ ⟨he, hw⟩ => ⟨he, m, hw.symm⟩

theorem apart_calls (a b ticks draw : Int) (w : World) (ht : 0 ≤ ticks) : Calls Try.prog 5 #[.int .i64 a, .int .i64 b, .int .i64 ticks, .int .i64 draw] w fun e w' => e = .returned (.bool true) ∧ Below w.heap.size w w' := by
  have hwa := wt_bd a
  have hwb := wt_bd b
  have hwd := wt_bd draw
  go_enter Try.func5, Try.ntmps5
  go_wp2_with fail
  refine (known_abs _).mono ?_
  rintro e w1 ⟨rfl, hb1⟩
  have HB1 := Aside0.mk hb1
  clear hb1
  go_wp2_with fail
  refine (new_abs _ _).mono ?_
  rintro e w2 ⟨rfl, hx, hb⟩
  have HX := Aside0.mk hx
  have HB2 := Aside0.mk (below_step HB1.out hb)
  clear hb hx
  go_wp2_with fail
  refine (new_abs _ _).mono ?_
  rintro e w3 ⟨rfl, hy, hb⟩
  have HX3 := Aside0.mk (HX.out.below hb)
  have HY := Aside0.mk hy
  have HB3 := Aside0.mk (below_step HB2.out hb)
  have hlt : w1.heap.size < w2.heap.size := HX.out.lt
  have hg1 : w.heap.size ≤ w1.heap.size := HB1.out.size
  clear hb hy HX HB2 HB1
  go_wp2_with fail
  refine (left_calls _ _ _ _ HY.out).mono ?_
  rintro e w4 ⟨rfl, rfl⟩
  go_wp2_with fail
  go_loopw [12] (fun n wr => ∃ k : Nat, (k : Int) ≤ 1 + ticks % 9 ∧ n = .int .i64 k ∧ Aside0 (Cl 33 wr w1.heap.size (wt a - k)) ∧ Aside0 (Cl 33 wr w2.heap.size (wt b)) ∧ Aside0 (Below w.heap.size w wr)) (fun n _ => (1 + ticks % 9 - intOf n).toNat)
  case atStart => exact ⟨0, by omega, rfl, ⟨HX3.out.of (by omega)⟩, HY, HB3⟩
  case round =>
    obtain ⟨k, hk1, rfl, HC, HD, HW⟩ := hrel
    by_cases hk : (k : Int) < 1 + ticks % 9
    · go_wp2_with (go_at_call 17; refine (tick_no _ _ _ _ HC.out (by omega) (by omega)).mono ?_; rintro e w' ⟨rfl, hc1, ho1⟩; have HC1 := Aside0.mk hc1; have HO1 := Aside0.mk ho1; clear hc1 ho1)
      go_roundw
      case rel => exact ⟨k + 1, by omega, by go_num, ⟨HC1.out.of (by omega)⟩, ⟨HD.out.only HO1.out (by omega)⟩, ⟨HO1.out.below HW.out (by omega)⟩⟩
      case measure => simp [intOf]; omega
    · go_wp2_with fail
      refine (left_calls _ _ _ _ HC.out).mono ?_
      rintro e w5 ⟨rfl, rfl⟩
      go_wp2_with fail
      refine (reset_calls _ 33 _ _ _ HC.out).mono ?_
      rintro e w6 ⟨rfl, hc1, ho1⟩
      have HC1 := Aside0.mk hc1
      have HD1 := Aside0.mk (HD.out.only ho1 (by omega))
      have HW1 := Aside0.mk (ho1.below HW.out (by omega))
      clear hc1 ho1
      go_wp2_with fail
      refine (new_abs _ _).mono ?_
      rintro e w7 ⟨rfl, hz, hb⟩
      have HC2 := Aside0.mk (HC1.out.below hb)
      have HD2 := Aside0.mk (HD1.out.below hb)
      have HW2 := Aside0.mk (below_step HW1.out hb)
      have HZ := Aside0.mk hz
      clear hz hb
      go_wp2_with fail
      have d1 : decide (1 ≤ wt a - (k : Int)) = true := decide_eq_true (by omega)
      have d2 : decide (10 ≤ wt draw) = true := decide_eq_true (by omega)
      go_quiet ((first | (with_reducible exact left_q HC2.out _) | (with_reducible exact left_q HD2.out _) | (with_reducible exact left_q HZ.out _)))
      go_wp2
      go_ret
      exact ⟨rfl, pw_below_drewN HW2.out _⟩
theorem apart_neg (a b ticks draw : Int) (w : World) (ht : ticks < 0) : Calls Try.prog 5 #[.int .i64 a, .int .i64 b, .int .i64 ticks, .int .i64 draw] w fun e w' => e = .returned (.bool true) ∧ Below w.heap.size w w' := by
  go_enter Try.func5, Try.ntmps5
  go_wp2_with fail
  refine (known_abs _).mono ?_
  rintro e w1 ⟨rfl, hb1⟩
  have HB1 := Aside0.mk hb1
  clear hb1
  go_wp2
  go_ret
  exact ⟨rfl, HB1.out⟩

theorem ClockApart_walk (a0 a1 a2 a3 : Int) (W : World) (_w0 : (Lit.int .i64 a0).wf = true) (_w1 : (Lit.int .i64 a1).wf = true) (_w2 : (Lit.int .i64 a2).wf = true) (_w3 : (Lit.int .i64 a3).wf = true) :
    Calls Try.prog 5 #[.int .i64 a0, .int .i64 a1, .int .i64 a2, .int .i64 a3] W fun e w' => e = .returned (.bool true) ∧ Below W.heap.size W w' := by
  by_cases h : a2 < 0
  · exact apart_neg a0 a1 a2 a3 W h
  · exact apart_calls a0 a1 a2 a3 W (by omega)
end Go.Proofs.Ytimeknpdgloenaa.Clk
