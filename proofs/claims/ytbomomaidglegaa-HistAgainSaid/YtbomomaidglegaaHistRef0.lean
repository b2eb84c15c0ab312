/- The document's log: what it is in memory, and its functions that only read. -/
import Derived.Test.YtbomomaidglegaaHistSame
import Derived.Deep.LoopGhost
import Derived.WalkSpells
namespace Go.Proofs.Ytbomomaidglegaa.Hist
open Go Go.RowKit Go.Proofs.Ytbomomaidglegaa.XHist Go.Proofs.YtbomomaidglegaaW.PrintWords Go.Proofs.YtbomomaidglegaaW.PrintLast Go.Proofs.YtbomomaidglegaaW.PrintMore
set_option linter.unusedVariables false
set_option linter.unusedSimpArgs false

/-- A slice that is nil. -/
def kn : Kd (List Int) where
  sz := 1
  E := []
  K _ x cs := x = [] ∧ cs = [.slice none 0 0]
  M _ _ _ x cs := x = [] ∧ cs = [.slice none 0 0]
  K_len h := by rw [h.2]; rfl
  K_one h := by rw [h.2]; intro u hu; simp only [List.mem_singleton] at hu; subst hu; rfl
  K_below _ h := h
  K_of_M h := h
  M_mono _ h := h
  M_bound h := h
  M_move _ h := h
  M_lower _ h := h
/-- An entry without members. -/
def kp : Kd S77 := Kd.iso (Kd.pair (Kd.int .i64) (Kd.pair (Kd.int .i64) (Kd.pair (Kd.int .i64) (Kd.pair Kd.string (Kd.pair kn (Kd.int .i64)))))) (fun x : S77 => (x.f0, x.f1, x.f2, x.f3, x.f4, x.f5))
theorem kp_open {w : World} {x : S77} {cs : List Value} (h : kp.K w x cs) : x.f4 = [] ∧ cs = [.int .i64 x.f0, .int .i64 x.f1, .int .i64 x.f2, .string x.f3, .slice none 0 0, .int .i64 x.f5] := by
  obtain ⟨_, _, rfl, rfl, ⟨_, _, rfl, rfl, ⟨_, _, rfl, rfl, ⟨_, _, rfl, rfl, ⟨_, _, rfl, ⟨h4, rfl⟩, rfl⟩⟩⟩⟩⟩ := h
  exact ⟨h4, rfl⟩
theorem kp_mk (w : World) (b : Nat) (ok : Nat → Prop) (x : S77) (h : x.f4 = []) : kp.M w b ok x [.int .i64 x.f0, .int .i64 x.f1, .int .i64 x.f2, .string x.f3, .slice none 0 0, .int .i64 x.f5] :=
  ⟨[.int .i64 x.f0], _, rfl, rfl, ⟨[.int .i64 x.f1], _, rfl, rfl, ⟨[.int .i64 x.f2], _, rfl, rfl, ⟨[.string x.f3], _, rfl, rfl, ⟨[.slice none 0 0], _, rfl, ⟨h, rfl⟩, rfl⟩⟩⟩⟩⟩
theorem kp_C {w : World} {A : Option Addr} {n : Nat} {xs : List S77} (h : Kd.C kp w A n xs) : Kd.C k77 w A n xs :=
  Kd.C_imp (d := kp) (d' := k77) rfl (fun w x cs hk => by
    obtain ⟨h4, rfl⟩ := kp_open hk
    have := k77_mk w x (A4 := none) (c4 := 0) (by rw [h4]; exact Nat.le_refl _) (by rw [h4]; exact Kd.C_nil _ _)
    rw [h4] at this
    exact this) h
theorem at_kp {w : World} {A : Option Addr} {n : Nat} {xs : List S77} (h : Kd.C kp w A n xs) (i : Int) (h0 : 0 ≤ i) (h1 : i < n) : ∃ ad, A = some ad ∧ (rd_T77 xs i).f4 = [] ∧ w.cell? (ad.add (i.toNat * 6)) = some (.int .i64 (rd_T77 xs i).f0) ∧ w.cell? ⟨(ad.add (i.toNat * 6)).block, (ad.add (i.toNat * 6)).off + 1, none⟩ = some (.int .i64 (rd_T77 xs i).f1) ∧ w.cell? ⟨(ad.add (i.toNat * 6)).block, (ad.add (i.toNat * 6)).off + 2, none⟩ = some (.int .i64 (rd_T77 xs i).f2) ∧ w.cell? ⟨(ad.add (i.toNat * 6)).block, (ad.add (i.toNat * 6)).off + 3, none⟩ = some (.string (rd_T77 xs i).f3) ∧ w.cell? ⟨(ad.add (i.toNat * 6)).block, (ad.add (i.toNat * 6)).off + 4, none⟩ = some (.slice none 0 0) ∧ w.cell? ⟨(ad.add (i.toNat * 6)).block, (ad.add (i.toNat * 6)).off + 5, none⟩ = some (.int .i64 (rd_T77 xs i).f5) := by
  obtain ⟨ad, c, e, _, hK, hc0⟩ := Kd.C_get h z77 i h0 h1
  have hc : ∀ j u, c[j]? = some u → w.cell? (ad.add (i.toNat * 6 + j)) = some u := hc0
  obtain ⟨h4, rfl⟩ := kp_open hK
  exact ⟨ad, e, h4, hc 0 _ rfl, by rw [← add_field _ _ 1 (by omega)]; exact hc 1 _ rfl, by rw [← add_field _ _ 2 (by omega)]; exact hc 2 _ rfl, by rw [← add_field _ _ 3 (by omega)]; exact hc 3 _ rfl, by rw [← add_field _ _ 4 (by omega)]; exact hc 4 _ rfl, by rw [← add_field _ _ 5 (by omega)]; exact hc 5 _ rfl⟩

/-- The document's log at block g. -/
def IsX (B : Nat) (W : World) (g : Nat) (F : Nat → Prop) (b : Int) (ts : List Int) (es : List S77) : Prop :=
  ∃ A1 c1 A2 c2, W.heap[g]? = some (.cells #[.int .i64 b, .slice A1 ts.length c1, .slice A2 es.length c2] 67 (0, 0)) ∧ F g ∧ (∀ q, F q → B ≤ q) ∧ (∀ q, F q → q < W.heap.size) ∧
    Kd.R (Kd.int .i64) 3 W B (fun q => F q ∧ q ≠ g) (.slice A1 ts.length c1) ts ∧ Kd.R kp 77 W B (fun q => F q ∧ q ≠ g) (.slice A2 es.length c2) es ∧ ts.length = es.length ∧ 0 ≤ b ∧ b + (es.length : Int) ≤ 64

theorem IsX.step {B : Nat} {W W' : World} {g : Nat} {F : Nat → Prop} {b : Int} {ts : List Int} {es : List S77} (h : IsX B W g F b ts es) (hs : ∀ k, F k → k < W.heap.size → W'.heap[k]? = W.heap[k]?) (hz : W.heap.size ≤ W'.heap.size) : IsX B W' g F b ts es := by
  obtain ⟨A1, c1, A2, c2, hb, hg, hF, hL, hR, hE, r⟩ := h
  exact ⟨A1, c1, A2, c2, (hs g hg (blk_lt hb)).trans hb, hg, hF, fun q hq => Nat.lt_of_lt_of_le (hL q hq) hz, Kd.R_step hR (fun k ho hk => hs k ho.1 hk), Kd.R_step hE (fun k ho hk => hs k ho.1 hk), r⟩
theorem IsX.below {B : Nat} {W W' : World} {g : Nat} {F : Nat → Prop} {b : Int} {ts : List Int} {es : List S77} (h : IsX B W g F b ts es) (hb : Below W.heap.size W W') : IsX B W' g F b ts es := h.step (fun k _ hk => hb.block k hk) hb.size
theorem IsX.kept {B : Nat} {W W' : World} {g : Nat} {F F' : Nat → Prop} {b : Int} {ts : List Int} {es : List S77} (h : IsX B W g F b ts es) (hk : Kept F' W W') (hd : ∀ q, F q → ¬ F' q) : IsX B W' g F b ts es := h.step (fun k hf hlt => hk.block k hlt (hd k hf)) hk.size
theorem IsX.drew {B : Nat} {W : World} {g : Nat} {F : Nat → Prop} {b : Int} {ts : List Int} {es : List S77} (h : IsX B W g F b ts es) : IsX B W.drew g F b ts es := h.below (below_drew (Below.refl _ _))
theorem IsX.drewN {B : Nat} {W : World} {g : Nat} {F : Nat → Prop} {b : Int} {ts : List Int} {es : List S77} (h : IsX B W g F b ts es) (n : Nat) : IsX B (W.drewN n) g F b ts es := h.below (pw_below_drewN (Below.refl _ _) n)
theorem IsX.alloc {B : Nat} {W : World} {g : Nat} {F : Nat → Prop} {b : Int} {ts : List Int} {es : List S77} (h : IsX B W g F b ts es) (o : Obj) : IsX B (W.alloc o) g F b ts es := h.below (below_alloc (Below.refl _ _) o)

/-- A term of the document's log. -/
def tx (b : Int) (ts : List Int) (i : Int) : Int := if b < i ∧ i ≤ b + (ts.length : Int) then rd ts (i - b - 1) else 0

set_option maxHeartbeats 4000000 in
set_option maxRecDepth 100000 in
theorem xlast_calls {B : Nat} {W : World} {g : Nat} {F : Nat → Prop} {b : Int} {ts : List Int} {es : List S77} (h : IsX B W g F b ts es) :
    Calls Try.prog 67 #[.pointer (some ⟨g, 0, none⟩)] W fun e w' => e = .returned (.int .i64 (b + (es.length : Int))) ∧ Drawn0 W w' := by
  obtain ⟨A1, c1, A2, c2, hb, _, _, _, _, _, _, h0, h1⟩ := h
  have hc0 : W.cell? ⟨g, 0, none⟩ = some (.int .i64 b) := (blk_cell hb 0).trans rfl
  have hc2 : W.cell? ⟨g, 2, none⟩ = some (.slice A2 es.length c2) := (blk_cell hb 2).trans rfl
  have hw : wrap64 (b + (es.length : Int)) = b + (es.length : Int) := by unfold wrap64; omega
  clear hb
  go_enter Try.func67, Try.ntmps67
  go_wp2
  repeat (go_quiet (fail); try go_wp2)
  go_ret
  exact ⟨by first | rfl | (simp [hw]; done) | (rw [hw]), by repeat (first | exact Drawn0.refl _ | apply Drawn0.step)⟩

set_option maxHeartbeats 4000000 in
set_option maxRecDepth 100000 in
theorem xterm_calls {B : Nat} {W : World} {g : Nat} {F : Nat → Prop} {b : Int} {ts : List Int} {es : List S77} (h : IsX B W g F b ts es) (i : Int) :
    Calls Try.prog 68 #[.pointer (some ⟨g, 0, none⟩), .int .i64 i] W fun e w' => e = .returned (.int .i64 (tx b ts i)) ∧ Drawn0 W w' := by
  have HH := Aside0.mk h
  obtain ⟨A1, c1, A2, c2, hb, _, _, _, hR, _, hl, h0, h1⟩ := h
  have hc0 : W.cell? ⟨g, 0, none⟩ = some (.int .i64 b) := (blk_cell hb 0).trans rfl
  have hc1 : W.cell? ⟨g, 1, none⟩ = some (.slice A1 ts.length c1) := (blk_cell hb 1).trans rfl
  have HLN := Aside0.mk hl
  clear hb
  by_cases c1' : i ≤ b
  · have d1 : decide (i ≤ b) = true := decide_eq_true c1'
    rw [show tx b ts i = 0 by unfold tx; rw [if_neg (by omega)]]
    clear hR hl c1'
    go_enter Try.func68, Try.ntmps68
    go_wp2
    go_ret
    exact ⟨rfl, by repeat (first | exact Drawn0.refl _ | apply Drawn0.step)⟩
  have d1 : decide (i ≤ b) = false := decide_eq_false c1'
  by_cases c2' : b + (es.length : Int) < i
  · have d2 : decide (b + (es.length : Int) < i) = true := decide_eq_true c2'
    rw [show tx b ts i = 0 by unfold tx; rw [if_neg (by omega)]]
    clear hR hl c1' c2'
    go_enter Try.func68, Try.ntmps68
    go_wp2_with (first | (go_at_call 67; refine (xlast_calls HH.out).mono ?_; rintro e w' ⟨rfl, ⟨n, rfl⟩⟩))
    go_ret
    exact ⟨rfl, by repeat (first | exact Drawn0.refl _ | apply Drawn0.step)⟩
  · have d2 : decide (b + (es.length : Int) < i) = false := decide_eq_false c2'
    obtain ⟨j, hj⟩ : ∃ j : Nat, i - b - 1 = (j : Int) := ⟨(i - b - 1).toNat, by omega⟩
    have hji5w : IntKind.i64.wrap (IntKind.i64.wrap (i - b) - 1) = (j : Int) := by rw [i64_w, i64_w]; unfold wrap64; omega
    rw [show tx b ts i = rd ts (j : Int) by unfold tx; rw [if_pos (by omega), hj]]
    have p1 : 0 ≤ (j : Int) := by omega
    have q1 : (j : Int) < (ts.length : Int) := by omega
    obtain ⟨ad, rfl, hx0⟩ := Kd.at_int (Kd.R_reads' hR).2.2 (j : Int) p1 q1
    rw [Int.toNat_natCast] at hx0
    replace p1 := eq_true p1
    replace q1 := eq_true q1
    clear hR hl c1' c2'
    go_enter Try.func68, Try.ntmps68
    go_wp2_with (first | (go_at_call 67; refine (xlast_calls HH.out).mono ?_; rintro e w' ⟨rfl, ⟨n, rfl⟩⟩))
    repeat (go_quiet (fail); try go_wp2)
    go_ret
    exact ⟨by first | rfl | (simp [*]; done), by repeat (first | exact Drawn0.refl _ | apply Drawn0.step)⟩
end Go.Proofs.Ytbomomaidglegaa.Hist
