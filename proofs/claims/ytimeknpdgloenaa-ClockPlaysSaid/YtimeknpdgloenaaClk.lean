/- The walks of the clock: what New, Reset, Tick and Left do to memory, and that the law ClockWaits answers true whatever it is given. -/
import Derived.Test.YtimeknpdgloenaaProg
import Derived.Test.YtimeknpdgloenaaWWords
import Derived.WalkKit
import Derived.KernelRfl
import Derived.Deep.LoopGhost
import Derived.Deep.QuietTactic
import Derived.BigQuiet
import Derived.WideLaws
import Derived.Lib.Hide
namespace Go.Proofs.Ytimeknpdgloenaa.Clk
open Go.RowKit Go.Proofs.YtimeknpdgloenaaW.PrintWords

/-- What a draw makes a clock wait. -/
def wt (d : Int) : Int := 10 + Int.tmod (Int.tmod d 10 + 10) 10
theorem wt_bd (d : Int) : 10 ≤ wt d ∧ wt d ≤ 19 := by
  unfold wt
  have h1 := Int.tmod_lt_of_pos d (show (0:Int) < 10 by decide)
  have h2 : -10 < Int.tmod d 10 := by
    have := Int.lt_tmod_of_pos d (show (0:Int) < 10 by decide)
    omega
  rw [Int.tmod_eq_emod_of_nonneg (by omega)]
  omega
theorem tm_bd (d : Int) : -9 ≤ Int.tmod d 10 ∧ Int.tmod d 10 ≤ 9 := by
  have h1 := Int.tmod_lt_of_pos d (show (0:Int) < 10 by decide)
  have h2 := Int.lt_tmod_of_pos d (show (0:Int) < 10 by decide)
  omega
theorem wt_eq (d : Int) : wt d = 10 + Int.tmod d 10 % 10 := by
  unfold wt
  have := tm_bd d
  rw [Int.tmod_eq_emod_of_nonneg (by omega)]
  omega



/-- Nothing but block g has turned. -/
structure Only (g : Nat) (w w' : World) : Prop where
  os : w'.os = w.os
  tape : w'.tape = w.tape
  output : w'.output = w.output
  size : w'.heap.size = w.heap.size
  block : ∀ k, k ≠ g → w'.heap[k]? = w.heap[k]?
theorem Only.refl (g : Nat) (w : World) : Only g w w := ⟨rfl, rfl, rfl, rfl, fun _ _ => rfl⟩
theorem Only.trans {g : Nat} {a b c : World} (h : Only g a b) (k : Only g b c) : Only g a c :=
  ⟨k.os.trans h.os, k.tape.trans h.tape, k.output.trans h.output, k.size.trans h.size, fun i hi => (k.block i hi).trans (h.block i hi)⟩
theorem Only.set {g : Nat} {a b : World} (h : Only g a b) (j : Nat) (u : Value) : Only g a (b.setCell ⟨g, j, none⟩ u) :=
  h.trans ⟨rfl, rfl, rfl, by simp [World.setCell], fun k hk => Below.heap_setCell b ⟨g, j, none⟩ u k hk⟩
theorem Only.drewN {g : Nat} {a b : World} (h : Only g a b) (n : Nat) : Only g a (b.drewN n) := h.trans ⟨rfl, rfl, rfl, rfl, fun _ _ => rfl⟩
theorem Only.drew {g : Nat} {a b : World} (h : Only g a b) : Only g a b.drew := h.trans ⟨rfl, rfl, rfl, rfl, fun _ _ => rfl⟩
theorem Only.below {g : Nat} {w a b : World} (h : Only g a b) {B : Nat} (hb : Below B w a) (hg : B ≤ g) : Below B w b :=
  hb.trans ⟨h.os, h.tape, h.output, by rw [h.size]; exact Nat.le_refl _, fun k hk => h.block k (by omega)⟩

/-- Block g is a clock with n ticks left. -/
def Cl (t : TypeId) (w : World) (g : Nat) (n : Int) : Prop := w.heap[g]? = some (.cells #[.int .i64 n] t (0, 0))
theorem Cl.cell {t : TypeId} {w : World} {g : Nat} {n : Int} (h : Cl t w g n) : w.cell? ⟨g, 0, none⟩ = some (.int .i64 n) := (blk_cell h 0).trans rfl
theorem Cl.frozen {t : TypeId} {w : World} {g : Nat} {n : Int} (h : Cl t w g n) : w.frozen? ⟨g, 0, none⟩ = false := blk_frozen h 0
theorem Cl.set {t : TypeId} {w : World} {g : Nat} {n : Int} (h : Cl t w g n) (m : Int) : Cl t (w.setCell ⟨g, 0, none⟩ (.int .i64 m)) g m := by
  unfold Cl
  simpa using blk_set h 0 (.int .i64 m)
theorem Cl.only {t : TypeId} {w w' : World} {g g' : Nat} {n : Int} (h : Cl t w g n) (hk : Only g' w w') (hne : g ≠ g') : Cl t w' g n := (hk.block g hne).trans h
theorem Cl.of {t : TypeId} {w : World} {g : Nat} {n m : Int} (h : Cl t w g n) (e : n = m) : Cl t w g m := e ▸ h
theorem Cl.alloc {t : TypeId} {w : World} {g : Nat} {n : Int} (h : Cl t w g n) (o : Obj) : Cl t (w.alloc o) g n := blk_alloc h o
theorem Cl.new (t : TypeId) (w : World) (n : Int) : Cl t (w.alloc (.cells #[.int .i64 n] t)) w.heap.size n := by
  unfold Cl
  simpa using heap_alloc_new w _
theorem Cl.lt {t : TypeId} {w : World} {g : Nat} {n : Int} (h : Cl t w g n) : g < w.heap.size := blk_lt h

theorem reset_calls (g t : Nat) (n d : Int) (w : World) (hb : Cl t w g n) :
    Calls Try.prog 15 #[.pointer (some ⟨g, 0, none⟩), .int .i64 d] w fun e w' => e = .returned (.tuple #[]) ∧ Cl t w' g (wt d) ∧ Only g w w' := by
  obtain ⟨h1, h2⟩ := tm_bd d
  have hc := hb.cell
  have hf := hb.frozen
  rw [wt_eq]
  go_enter Try.func15, Try.ntmps15
  go_wp2
  go_end0
  exact ⟨rfl, hb.set _, (Only.refl _ _).set _ _⟩

theorem new_calls (d : Int) (w : World) : Calls Try.prog 13 #[.int .i64 d] w fun e w' => e = .returned (.pointer (some ⟨w.heap.size, 0, none⟩)) ∧ w' = w.alloc (.cells #[.int .i64 (wt d)] 33) := by
  obtain ⟨h1, h2⟩ := tm_bd d
  rw [wt_eq]
  go_enter Try.func13, Try.ntmps13
  go_wp2
  go_end0
  go_wp2
  go_ret
  exact ⟨rfl, rfl⟩

theorem tick_no (g : Nat) (n d : Int) (w : World) (hb : Cl 33 w g n) (h1 : 1 < n) (h2 : n ≤ 19) :
    Calls Try.prog 17 #[.pointer (some ⟨g, 0, none⟩), .int .i64 d] w fun e w' => e = .returned (.bool false) ∧ Cl 33 w' g (n - 1) ∧ Only g w w' := by
  have hc := hb.cell
  have hf := hb.frozen
  go_enter Try.func17, Try.ntmps17
  go_wp2
  go_ret
  exact ⟨rfl, hb.set _, (Only.refl _ _).set _ _⟩

theorem tick_yes (g : Nat) (n d : Int) (w : World) (hb : Cl 33 w g n) (h1 : n = 1) :
    Calls Try.prog 17 #[.pointer (some ⟨g, 0, none⟩), .int .i64 d] w fun e w' => e = .returned (.bool true) ∧ Cl 33 w' g (wt d) ∧ Only g w w' := by
  obtain ⟨h3, h4⟩ := tm_bd d
  subst h1
  have hc := hb.cell
  have hf := hb.frozen
  rw [wt_eq]
  go_enter Try.func17, Try.ntmps17
  go_wp2
  go_end0
  go_wp2
  go_ret
  exact ⟨rfl, (hb.set _).set _, ((Only.refl _ _).set _ _).set _ _⟩

theorem known_calls (w : World) : Calls Try.prog 12 #[] w fun e w' => e = .returned (.bool true) ∧ w' = w.alloc (.cells #[.int .i64 13] 33) := by
  have hw : wt 3 = 13 := by decide
  go_enter Try.func12, Try.ntmps12
  go_wp2_with (go_at_call 13; refine (new_calls 3 _).mono ?_; rintro e w' ⟨rfl, rfl⟩; rw [hw])
  go_wp2
  go_ret
  exact ⟨rfl, rfl⟩


theorem left_calls (g t : Nat) (n : Int) (w : World) (hb : Cl t w g n) : Calls Try.prog 19 #[.pointer (some ⟨g, 0, none⟩)] w fun e w' => e = .returned (.int .i64 n) ∧ w = w' := by
  have hc := hb.cell
  go_enter Try.func19, Try.ntmps19
  go_wp2
  go_ret
  exact ⟨rfl, rfl⟩

theorem waits_calls (draw next : Int) (w : World) : Calls Try.prog 4 #[.int .i64 draw, .int .i64 next] w fun e w' => e = .returned (.bool true) ∧ Below w.heap.size w w' := by
  have hda := tm_bd draw
  have hdb := tm_bd next
  have hwa := wt_bd draw
  have hwb := wt_bd next
  have HA := Lib.hid (wt_eq draw)
  have HB := Lib.hid (wt_eq next)
  have HZ : Hid (wt 0 = 10) := Lib.hid (by decide)
  by_cases ha : Int.tmod draw 10 < 0 <;> by_cases hb : Int.tmod next 10 < 0
  all_goals
    go_enter Try.func4, Try.ntmps4
    go_wp2_with (first | (go_at_call 12; refine (known_calls _).mono ?_; rintro e w' ⟨rfl, rfl⟩) | (go_at_call 13; refine (new_calls _ _).mono ?_; rintro e w' ⟨rfl, rfl⟩))
    go_loopw [8] (fun n wr => ∃ k : Nat, 1 ≤ k ∧ (k : Int) ≤ wt draw ∧ n = .int .i64 k ∧ Aside0 (Cl 33 wr (w.heap.size + 1) (wt draw + 1 - k)) ∧ Aside0 (Below w.heap.size w wr)) (fun n _ => (wt draw - intOf n).toNat)
    case atStart =>
      refine ⟨1, by omega, by omega, rfl, ⟨?_⟩, ⟨((Below.refl _ _).alloc (Nat.le_refl _) _).alloc (by simp) _⟩⟩
      have := Cl.new 33 (w.alloc (.cells #[.int .i64 13] 33)) (wt draw)
      simpa using this
    case round =>
      obtain ⟨k, hk1, hk2, rfl, HC, HW⟩ := hrel
      by_cases hk : (k : Int) < wt draw
      · go_wp2_with (go_at_call 17; refine (tick_no _ _ _ _ HC.out (by omega) (by omega)).mono ?_; rintro e w' ⟨rfl, hc1, ho1⟩; have HC1 := Aside0.mk hc1; have HO1 := Aside0.mk ho1; clear hc1 ho1)
        go_roundw
        case rel => exact ⟨k + 1, by omega, by omega, by go_num, ⟨HC1.out.of (by omega)⟩, ⟨HO1.out.below HW.out (by omega)⟩⟩
        case measure => simp [intOf]; omega
      · have hkk : (k : Int) = wt draw := by omega
        have HK := Lib.hid hkk
        clear hkk
        go_wp2_with (go_at_call 17; refine (tick_yes _ _ _ _ HC.out (by have := HK.out; omega)).mono ?_; rintro e w' ⟨rfl, hc1, ho1⟩; have HC1 := Aside0.mk hc1; have HO1 := Aside0.mk ho1; clear hc1 ho1)
        have hb2 := HO1.out.below HW.out (by omega)
        have HW2 := Aside0.mk hb2
        clear hb2
        obtain ⟨wo, hwo⟩ : ∃ wo : World, wo = w' := ⟨_, rfl⟩
        go_loopw [9] (fun n wr => ∃ m : Nat, 1 ≤ m ∧ (m : Int) ≤ wt next ∧ n = .int .i64 m ∧ Aside0 (Cl 33 wr (w.heap.size + 1) (wt next + 1 - m)) ∧ Aside0 (Below w.heap.size w wr)) (fun n _ => (wt next - intOf n).toNat)
        case atStart => exact ⟨1, by omega, by omega, rfl, ⟨HC1.out.of (by omega)⟩, HW2⟩
        case round =>
          obtain ⟨m, hm1, hm2, rfl, HC2, HW3⟩ := hrel
          by_cases hm : (m : Int) < wt next
          · go_wp2_with (go_at_call 17; refine (tick_no _ _ _ _ HC2.out (by omega) (by omega)).mono ?_; rintro e w' ⟨rfl, hc1, ho1⟩; have HC3 := Aside0.mk hc1; have HO3 := Aside0.mk ho1; clear hc1 ho1)
            go_roundw
            case rel => exact ⟨m + 1, by omega, by omega, by go_num, ⟨HC3.out.of (by omega)⟩, ⟨HO3.out.below HW3.out (by omega)⟩⟩
            case measure => simp [intOf]; omega
          · have hmm : (m : Int) = wt next := by omega
            have HM := Lib.hid hmm
            clear hmm
            go_wp2_with (go_at_call 17; refine (tick_yes _ _ _ _ HC2.out (by have := HM.out; omega)).mono ?_; rintro e w' ⟨rfl, hc1, ho1⟩; have HC3 := Aside0.mk hc1; have HO3 := Aside0.mk ho1; clear hc1 ho1)
            all_goals first
              | (exfalso; have := HA.out; have := HB.out; have := HK.out; have := HM.out; omega)
              | (refine (left_calls _ _ _ _ (HC3.out.of HZ.out)).mono ?_
                 rintro e w' ⟨rfl, rfl⟩
                 go_wp2
                 go_ret
                 exact ⟨rfl, HO3.out.below HW3.out (by omega)⟩)

theorem ClockWaits_walk (a0 a1 : Int) (W : World) (_w0 : (Lit.int .i64 a0).wf = true) (_w1 : (Lit.int .i64 a1).wf = true) :
    Calls Try.prog 4 #[.int .i64 a0, .int .i64 a1] W fun e w' => e = .returned (.bool true) ∧ Below W.heap.size W w' := waits_calls a0 a1 W

theorem known_abs (w : World) : Calls Try.prog 12 #[] w fun e w' => e = .returned (.bool true) ∧ Below w.heap.size w w' :=
  (known_calls w).mono fun _ _ ⟨he, hw⟩ => ⟨he, hw ▸ (Below.refl _ _).alloc (Nat.le_refl _) _⟩
theorem new_abs (d : Int) (w : World) : Calls Try.prog 13 #[.int .i64 d] w fun e w' => e = .returned (.pointer (some ⟨w.heap.size, 0, none⟩)) ∧ Cl 33 w' w.heap.size (wt d) ∧ Below w.heap.size w w' :=
  (new_calls d w).mono fun _ _ ⟨he, hw⟩ => ⟨he, hw ▸ Cl.new _ _ _, hw ▸ (Below.refl _ _).alloc (Nat.le_refl _) _⟩
theorem Cl.below {t : TypeId} {w w' : World} {g : Nat} {n : Int} (h : Cl t w g n) (hb : Below w.heap.size w w') : Cl t w' g n := blk_below h hb

end Go.Proofs.Ytimeknpdgloenaa.Clk
