/- The document's log, its entries whatever they are: what it is in memory, and its functions that only read. -/
import Derived.Test.YtbomomaidglegaaHistRef0
import Derived.Deep.LoopGhost
import Derived.WalkSpells
namespace Go.Proofs.Ytbomomaidglegaa.Hist
open Go Go.RowKit Go.Proofs.Ytbomomaidglegaa.XHist Go.Proofs.YtbomomaidglegaaW.PrintWords Go.Proofs.YtbomomaidglegaaW.PrintLast Go.Proofs.YtbomomaidglegaaW.PrintMore
set_option linter.unusedVariables false
set_option linter.unusedSimpArgs false

/-- A slice, whatever it is. -/
def kv : Kd (List Int) where
  sz := 1
  E := []
  K _ _ cs := ∃ A n c, cs = [.slice A n c]
  M _ _ _ _ cs := ∃ A n c, cs = [.slice A n c]
  K_len h := by obtain ⟨_, _, _, rfl⟩ := h; rfl
  K_one h := by obtain ⟨_, _, _, rfl⟩ := h; intro u hu; simp only [List.mem_singleton] at hu; subst hu; rfl
  K_below _ h := h
  K_of_M h := h
  M_mono _ h := h
  M_bound h := h
  M_move _ h := h
  M_lower _ h := h
/-- An entry, its members whatever they are. -/
def kq : Kd S77 := Kd.iso (Kd.pair (Kd.int .i64) (Kd.pair (Kd.int .i64) (Kd.pair (Kd.int .i64) (Kd.pair Kd.string (Kd.pair kv (Kd.int .i64)))))) (fun x : S77 => (x.f0, x.f1, x.f2, x.f3, x.f4, x.f5))
theorem kq_mk (w : World) (b : Nat) (ok : Nat → Prop) (x : S77) (A : Option Addr) (n c : Nat) : kq.M w b ok x [.int .i64 x.f0, .int .i64 x.f1, .int .i64 x.f2, .string x.f3, .slice A n c, .int .i64 x.f5] :=
  ⟨[.int .i64 x.f0], _, rfl, rfl, ⟨[.int .i64 x.f1], _, rfl, rfl, ⟨[.int .i64 x.f2], _, rfl, rfl, ⟨[.string x.f3], _, rfl, rfl, ⟨[.slice A n c], _, rfl, ⟨A, n, c, rfl⟩, rfl⟩⟩⟩⟩⟩
theorem kq_M {w w' : World} {b : Nat} {ok : Nat → Prop} {x : S77} {cs : List Value} (h : kq.K w x cs) : kq.M w' b ok x cs := by
  obtain ⟨_, _, rfl, h0, ⟨_, _, rfl, h1, ⟨_, _, rfl, h2, ⟨_, _, rfl, h3, ⟨_, _, rfl, h4, h5⟩⟩⟩⟩⟩ := h
  exact ⟨_, _, rfl, h0, ⟨_, _, rfl, h1, ⟨_, _, rfl, h2, ⟨_, _, rfl, h3, ⟨_, _, rfl, h4, h5⟩⟩⟩⟩⟩

/-- The document's log at block g. -/
def IsY (B : Nat) (W : World) (g : Nat) (F : Nat → Prop) (b : Int) (ts : List Int) (es : List S77) : Prop :=
  ∃ A1 c1 A2 c2, W.heap[g]? = some (.cells #[.int .i64 b, .slice A1 ts.length c1, .slice A2 es.length c2] 67 (0, 0)) ∧ F g ∧ (∀ q, F q → B ≤ q) ∧ (∀ q, F q → q < W.heap.size) ∧
    Kd.R (Kd.int .i64) 3 W B (fun q => F q ∧ q ≠ g) (.slice A1 ts.length c1) ts ∧ Kd.R kq 77 W B (fun q => F q ∧ q ≠ g) (.slice A2 es.length c2) es ∧ ts.length = es.length ∧ 0 ≤ b ∧ b + (es.length : Int) ≤ 64

theorem IsY.step {B : Nat} {W W' : World} {g : Nat} {F : Nat → Prop} {b : Int} {ts : List Int} {es : List S77} (h : IsY B W g F b ts es) (hs : ∀ k, F k → k < W.heap.size → W'.heap[k]? = W.heap[k]?) (hz : W.heap.size ≤ W'.heap.size) : IsY B W' g F b ts es := by
  obtain ⟨A1, c1, A2, c2, hb, hg, hF, hL, hR, hE, r⟩ := h
  exact ⟨A1, c1, A2, c2, (hs g hg (blk_lt hb)).trans hb, hg, hF, fun q hq => Nat.lt_of_lt_of_le (hL q hq) hz, Kd.R_step hR (fun k ho hk => hs k ho.1 hk), Kd.R_step hE (fun k ho hk => hs k ho.1 hk), r⟩
theorem IsY.below {B : Nat} {W W' : World} {g : Nat} {F : Nat → Prop} {b : Int} {ts : List Int} {es : List S77} (h : IsY B W g F b ts es) (hb : Below W.heap.size W W') : IsY B W' g F b ts es := h.step (fun k _ hk => hb.block k hk) hb.size
theorem IsY.kept {B : Nat} {W W' : World} {g : Nat} {F F' : Nat → Prop} {b : Int} {ts : List Int} {es : List S77} (h : IsY B W g F b ts es) (hk : Kept F' W W') (hd : ∀ q, F q → ¬ F' q) : IsY B W' g F b ts es := h.step (fun k hf hlt => hk.block k hlt (hd k hf)) hk.size
theorem IsY.drew {B : Nat} {W : World} {g : Nat} {F : Nat → Prop} {b : Int} {ts : List Int} {es : List S77} (h : IsY B W g F b ts es) : IsY B W.drew g F b ts es := h.below (below_drew (Below.refl _ _))
theorem IsY.drewN {B : Nat} {W : World} {g : Nat} {F : Nat → Prop} {b : Int} {ts : List Int} {es : List S77} (h : IsY B W g F b ts es) (n : Nat) : IsY B (W.drewN n) g F b ts es := h.below (pw_below_drewN (Below.refl _ _) n)
theorem IsY.alloc {B : Nat} {W : World} {g : Nat} {F : Nat → Prop} {b : Int} {ts : List Int} {es : List S77} (h : IsY B W g F b ts es) (o : Obj) : IsY B (W.alloc o) g F b ts es := h.below (below_alloc (Below.refl _ _) o)

set_option maxHeartbeats 4000000 in
set_option maxRecDepth 100000 in
theorem ylast_calls {B : Nat} {W : World} {g : Nat} {F : Nat → Prop} {b : Int} {ts : List Int} {es : List S77} (h : IsY B W g F b ts es) :
    Calls Try.prog 67 #[.pointer (some ⟨g, 0, none⟩)] W fun e w' => e = .returned (.int .i64 (b + (es.length : Int))) ∧ Drawn0 W w' := by
  obtain ⟨A1, c1, A2, c2, hb, _, _, _, _, _, _, h0, h1⟩ := h
  have hc0 : W.cell? ⟨g, 0, none⟩ = some (.int .i64 b) := (blk_cell hb 0).trans rfl
  have hc2 : W.cell? ⟨g, 2, none⟩ = some (.slice A2 es.length c2) := (blk_cell hb 2).trans rfl
  have hw : wrap64 (b + (es.length : Int)) = b + (es.length : Int) := by unfold wrap64; omega
  clear hb
  go_enter Try.func67, Try.ntmps67
  go_wp2
  repeat (go_quiet (fail); try go_wp2)
  go_ret
  exact ⟨by first | rfl | (simp [hw]; done) | (rw [hw]), by repeat (first | exact Drawn0.refl _ | apply Drawn0.step)⟩

set_option maxHeartbeats 4000000 in
set_option maxRecDepth 100000 in
theorem yterm_calls {B : Nat} {W : World} {g : Nat} {F : Nat → Prop} {b : Int} {ts : List Int} {es : List S77} (h : IsY B W g F b ts es) (i : Int) :
    Calls Try.prog 68 #[.pointer (some ⟨g, 0, none⟩), .int .i64 i] W fun e w' => e = .returned (.int .i64 (tx b ts i)) ∧ Drawn0 W w' := by
  have HH := Aside0.mk h
  obtain ⟨A1, c1, A2, c2, hb, _, _, _, hR, _, hl, h0, h1⟩ := h
  have hc0 : W.cell? ⟨g, 0, none⟩ = some (.int .i64 b) := (blk_cell hb 0).trans rfl
  have hc1 : W.cell? ⟨g, 1, none⟩ = some (.slice A1 ts.length c1) := (blk_cell hb 1).trans rfl
  have HLN := Aside0.mk hl
  clear hb
  by_cases c1' : i ≤ b
  · have d1 : decide (i ≤ b) = true := decide_eq_true c1'
    rw [show tx b ts i = 0 by unfold tx; rw [if_neg (by omega)]]
    clear hR hl c1'
    go_enter Try.func68, Try.ntmps68
    go_wp2
    go_ret
    exact ⟨rfl, by repeat (first | exact Drawn0.refl _ | apply Drawn0.step)⟩
  have d1 : decide (i ≤ b) = false := decide_eq_false c1'
  by_cases c2' : b + (es.length : Int) < i
  · have d2 : decide (b + (es.length : Int) < i) = true := decide_eq_true c2'
    rw [show tx b ts i = 0 by unfold tx; rw [if_neg (by omega)]]
    clear hR hl c1' c2'
    go_enter Try.func68, Try.ntmps68
    go_wp2_with (first | (go_at_call 67; refine (ylast_calls HH.out).mono ?_; rintro e w' ⟨rfl, ⟨n, rfl⟩⟩))
    go_ret
    exact ⟨rfl, by repeat (first | exact Drawn0.refl _ | apply Drawn0.step)⟩
  · have d2 : decide (b + (es.length : Int) < i) = false := decide_eq_false c2'
    obtain ⟨j, hj⟩ : ∃ j : Nat, i - b - 1 = (j : Int) := ⟨(i - b - 1).toNat, by omega⟩
    have hji5w : IntKind.i64.wrap (IntKind.i64.wrap (i - b) - 1) = (j : Int) := by rw [i64_w, i64_w]; unfold wrap64; omega
    rw [show tx b ts i = rd ts (j : Int) by unfold tx; rw [if_pos (by omega), hj]]
    have p1 : 0 ≤ (j : Int) := by omega
    have q1 : (j : Int) < (ts.length : Int) := by omega
    obtain ⟨ad, rfl, hx0⟩ := Kd.at_int (Kd.R_reads' hR).2.2 (j : Int) p1 q1
    rw [Int.toNat_natCast] at hx0
    replace p1 := eq_true p1
    replace q1 := eq_true q1
    clear hR hl c1' c2'
    go_enter Try.func68, Try.ntmps68
    go_wp2_with (first | (go_at_call 67; refine (ylast_calls HH.out).mono ?_; rintro e w' ⟨rfl, ⟨n, rfl⟩⟩))
    repeat (go_quiet (fail); try go_wp2)
    go_ret
    exact ⟨by first | rfl | (simp [*]; done), by repeat (first | exact Drawn0.refl _ | apply Drawn0.step)⟩
end Go.Proofs.Ytbomomaidglegaa.Hist
