/- hist.Hist: what it is in memory, and its functions that only read. -/
import Derived.Test.YtbomomaidglegaaXHistx1
import Derived.Deep.LoopGhost
import Derived.WalkSpells
namespace Go.Proofs.Ytbomomaidglegaa.Hist
open Go Go.RowKit Go.Proofs.Ytbomomaidglegaa.XHist Go.Proofs.YtbomomaidglegaaW.PrintWords Go.Proofs.YtbomomaidglegaaW.PrintLast Go.Proofs.YtbomomaidglegaaW.PrintMore
set_option linter.unusedVariables false
set_option linter.unusedSimpArgs false

/-- Nothing but what F holds, and new blocks, has been written. -/
structure Kept (F : Nat → Prop) (W W' : World) : Prop where
  os : W'.os = W.os
  tape : W'.tape = W.tape
  output : W'.output = W.output
  size : W.heap.size ≤ W'.heap.size
  block : ∀ k, k < W.heap.size → ¬ F k → W'.heap[k]? = W.heap[k]?

theorem Kept.refl (F : Nat → Prop) (W : World) : Kept F W W := ⟨rfl, rfl, rfl, Nat.le_refl _, fun _ _ _ => rfl⟩
theorem Kept.of_below {F : Nat → Prop} {W W' : World} (h : Below W.heap.size W W') : Kept F W W' := ⟨h.os, h.tape, h.output, h.size, fun k hk _ => h.block k hk⟩
theorem Kept.trans {F F' : Nat → Prop} {W W' W'' : World} (h : Kept F W W') (hF : ∀ k, F' k → F k ∨ W.heap.size ≤ k) (h' : Kept F' W' W'') : Kept F W W'' :=
  ⟨h'.os.trans h.os, h'.tape.trans h.tape, h'.output.trans h.output, Nat.le_trans h.size h'.size, fun k hk hn => (h'.block k (Nat.lt_of_lt_of_le hk h.size) (fun hf => by rcases hF k hf with hf | hf; exact hn hf; omega)).trans (h.block k hk hn)⟩
theorem Kept.below {F : Nat → Prop} {W W' W'' : World} (h : Kept F W W') (h' : Below W'.heap.size W' W'') : Kept F W W'' := h.trans (F' := fun _ => False) (fun _ hf => hf.elim) (Kept.of_below h')
theorem Kept.after {F : Nat → Prop} {W W' W'' : World} (h : Below W.heap.size W W') (h' : Kept F W' W'') : Kept F W W'' := (Kept.of_below h).trans (fun _ hf => .inl hf) h'
theorem Kept.imp {F F' : Nat → Prop} {W W' : World} (h : Kept F W W') (hF : ∀ k, F k → F' k ∨ W.heap.size ≤ k) : Kept F' W W' :=
  ⟨h.os, h.tape, h.output, h.size, fun k hk hn => h.block k hk (fun hf => by rcases hF k hf with hf | hf; exact hn hf; omega)⟩
theorem below_kept {B : Nat} {w W W' : World} {F : Nat → Prop} (h : Below B w W) (hB : B ≤ W.heap.size) (hF : ∀ k, F k → B ≤ k) (hk : Kept F W W') : Below B w W' :=
  ⟨hk.os.trans h.os, hk.tape.trans h.tape, hk.output.trans h.output, Nat.le_trans h.size hk.size, fun k hkB => (hk.block k (by omega) (fun hf => by have := hF k hf; omega)).trans (h.block k hkB)⟩
theorem blk_kept {F : Nat → Prop} {W W' : World} {g : Nat} {o : Obj} (hk : Kept F W W') (h : W.heap[g]? = some o) (hF : ¬ F g) : W'.heap[g]? = some o := (hk.block g (blk_lt h) hF).trans h
theorem R_kept_ {α : Type} {d : Kd α} {e B : Nat} {ok : Nat → Prop} {W W' : World} {v : Value} {xs : List α} {F : Nat → Prop} (h : d.R e W B ok v xs) (hk : Kept F W W') (hF : ∀ k, ok k → ¬ F k) : d.R e W' B ok v xs := Kd.R_step h (fun k ho hkk => hk.block k hkk (hF k ho))
theorem drawn_below {W W' : World} (h : Drawn0 W W') : Below W.heap.size W W' := h.below
theorem drawn_kept {F : Nat → Prop} {W W' : World} (h : Drawn0 W W') : Kept F W W' := Kept.of_below h.below
theorem drawn_heap {W W' : World} (h : Drawn0 W W') : W'.heap = W.heap := by
  obtain ⟨⟨n, rfl⟩⟩ := h
  rfl

/-- A log at block g; what is its own lies in blocks of F, none ahead of B. -/
def IsH (B : Nat) (W : World) (g : Nat) (F : Nat → Prop) (b : Int) (l : List S105) : Prop :=
  ∃ v, W.heap[g]? = some (.cells #[.int .i64 b, v] 103 (0, 0)) ∧ F g ∧ (∀ k, F k → B ≤ k) ∧ k105.R 105 W B (fun k => F k ∧ k ≠ g) v l ∧ 0 ≤ b ∧ b + (l.length : Int) ≤ 64

theorem IsH.reads {B : Nat} {W : World} {g : Nat} {F : Nat → Prop} {b : Int} {l : List S105} (h : IsH B W g F b l) :
    ∃ A c, W.heap[g]? = some (.cells #[.int .i64 b, .slice A l.length c] 103 (0, 0)) ∧ l.length ≤ c ∧ Kd.C k105 W A l.length l ∧ 0 ≤ b ∧ b + (l.length : Int) ≤ 64 := by
  obtain ⟨v, hb, _, _, hR, h0, h1⟩ := h
  obtain ⟨A, c, rfl, hc, hC⟩ := Kd.R_reads hR
  exact ⟨A, c, hb, hc, hC, h0, h1⟩

theorem IsH.bounds {B : Nat} {W : World} {g : Nat} {F : Nat → Prop} {b : Int} {l : List S105} (h : IsH B W g F b l) : 0 ≤ b ∧ b + (l.length : Int) ≤ 64 := by
  obtain ⟨v, _, _, _, _, h0, h1⟩ := h
  exact ⟨h0, h1⟩
theorem IsH.ge {B : Nat} {W : World} {g : Nat} {F : Nat → Prop} {b : Int} {l : List S105} (h : IsH B W g F b l) : ∀ k, F k → B ≤ k := by
  obtain ⟨v, _, _, h, _⟩ := h
  exact h
theorem IsH.step {B : Nat} {W W' : World} {g : Nat} {F : Nat → Prop} {b : Int} {l : List S105} (h : IsH B W g F b l) (hs : ∀ k, F k → k < W.heap.size → W'.heap[k]? = W.heap[k]?) : IsH B W' g F b l := by
  obtain ⟨v, hb, hg, hF, hR, h0, h1⟩ := h
  exact ⟨v, (hs g hg (blk_lt hb)).trans hb, hg, hF, Kd.R_step hR (fun k ho hk => hs k ho.1 hk), h0, h1⟩
theorem IsH.below {B : Nat} {W W' : World} {g : Nat} {F : Nat → Prop} {b : Int} {l : List S105} (h : IsH B W g F b l) (hb : Below W.heap.size W W') : IsH B W' g F b l := h.step (fun k _ hk => hb.block k hk)
theorem IsH.kept {B : Nat} {W W' : World} {g : Nat} {F F' : Nat → Prop} {b : Int} {l : List S105} (h : IsH B W g F b l) (hk : Kept F' W W') (hd : ∀ k, F k → ¬ F' k) : IsH B W' g F b l := h.step (fun k hF hlt => hk.block k hlt (hd k hF))
theorem IsH.drawn {B : Nat} {W W' : World} {g : Nat} {F : Nat → Prop} {b : Int} {l : List S105} (h : IsH B W g F b l) (hb : Drawn0 W W') : IsH B W' g F b l := h.below hb.below
theorem IsH.drew {B : Nat} {W : World} {g : Nat} {F : Nat → Prop} {b : Int} {l : List S105} (h : IsH B W g F b l) : IsH B W.drew g F b l := h.below ⟨rfl, rfl, rfl, Nat.le_refl _, fun _ _ => rfl⟩
theorem IsH.drewN {B : Nat} {W : World} {g : Nat} {F : Nat → Prop} {b : Int} {l : List S105} (h : IsH B W g F b l) (n : Nat) : IsH B (W.drewN n) g F b l := h.below ⟨rfl, rfl, rfl, Nat.le_refl _, fun _ _ => rfl⟩
theorem IsH.alloc {B : Nat} {W : World} {g : Nat} {F : Nat → Prop} {b : Int} {l : List S105} (h : IsH B W g F b l) (o : Obj) : IsH B (W.alloc o) g F b l := h.below (below_alloc (Below.refl _ _) o)

/-- An entry's term; 0 where there is none. -/
def tm (b : Int) (l : List S105) (i : Int) : Int := if b < i ∧ i ≤ b + (l.length : Int) then (rd_T105 l (i - b - 1)).f0 else 0

set_option maxHeartbeats 4000000 in
set_option maxRecDepth 100000 in
theorem last_calls {B : Nat} {W : World} {g : Nat} {F : Nat → Prop} {b : Int} {l : List S105} (h : IsH B W g F b l) :
    Calls Try.prog 35 #[.pointer (some ⟨g, 0, none⟩)] W fun e w' => e = .returned (.int .i64 (b + (l.length : Int))) ∧ Drawn0 W w' := by
  obtain ⟨A, c, hb, hc, hC, h0, h1⟩ := h.reads
  have hc0 : W.cell? ⟨g, 0, none⟩ = some (.int .i64 b) := (blk_cell hb 0).trans rfl
  have hc1 : W.cell? ⟨g, 1, none⟩ = some (.slice A l.length c) := (blk_cell hb 1).trans rfl
  have hw : wrap64 (b + (l.length : Int)) = b + (l.length : Int) := by unfold wrap64; omega
  clear hb h hC
  go_enter Try.func35, Try.ntmps35
  go_wp2
  repeat (go_quiet (fail); try go_wp2)
  go_ret
  exact ⟨by first | rfl | (simp [hw]; done) | (rw [hw]), by repeat (first | exact Drawn0.refl _ | apply Drawn0.step)⟩

set_option maxHeartbeats 4000000 in
set_option maxRecDepth 100000 in
theorem has_calls {B : Nat} {W : World} {g : Nat} {F : Nat → Prop} {b : Int} {l : List S105} (h : IsH B W g F b l) (i : Int) :
    Calls Try.prog 66 #[.pointer (some ⟨g, 0, none⟩), .int .i64 i] W fun e w' => e = .returned (.bool (decide (b < i ∧ i ≤ b + (l.length : Int)))) ∧ Drawn0 W w' := by
  obtain ⟨A, c, hb, hc, hC, h0, h1⟩ := h.reads
  have hc0 : W.cell? ⟨g, 0, none⟩ = some (.int .i64 b) := (blk_cell hb 0).trans rfl
  have HH := Aside0.mk h
  clear hb h hC
  by_cases c1 : b < i
  · have d1 : decide (b < i) = true := decide_eq_true c1
    have e1 : decide (b < i ∧ i ≤ b + (l.length : Int)) = decide (i ≤ b + (l.length : Int)) := by simp [c1]
    rw [e1]
    clear e1 c1
    go_enter Try.func66, Try.ntmps66
    go_wp2_with (first | (go_at_call 35; refine (last_calls (by repeat (first | exact HH.out | apply IsH.drew | apply IsH.drewN))).mono ?_; rintro e w' ⟨rfl, ⟨n, rfl⟩⟩))
    go_ret
    exact ⟨rfl, by repeat (first | exact Drawn0.refl _ | apply Drawn0.step)⟩
  · have d1 : decide (b < i) = false := decide_eq_false c1
    have e1 : decide (b < i ∧ i ≤ b + (l.length : Int)) = false := by simp [c1]
    rw [e1]
    clear e1 c1
    go_enter Try.func66, Try.ntmps66
    go_wp2
    go_ret
    exact ⟨rfl, by repeat (first | exact Drawn0.refl _ | apply Drawn0.step)⟩

set_option maxHeartbeats 4000000 in
set_option maxRecDepth 100000 in
theorem term_calls {B : Nat} {W : World} {g : Nat} {F : Nat → Prop} {b : Int} {l : List S105} (h : IsH B W g F b l) (i : Int) :
    Calls Try.prog 36 #[.pointer (some ⟨g, 0, none⟩), .int .i64 i] W fun e w' => e = .returned (.int .i64 (tm b l i)) ∧ Drawn0 W w' := by
  have HH := Aside0.mk h
  by_cases c1 : b < i ∧ i ≤ b + (l.length : Int)
  · obtain ⟨A, c, hb, hc, hC, h0, h1⟩ := h.reads
    have hc0 : W.cell? ⟨g, 0, none⟩ = some (.int .i64 b) := (blk_cell hb 0).trans rfl
    have hc1 : W.cell? ⟨g, 1, none⟩ = some (.slice A l.length c) := (blk_cell hb 1).trans rfl
    have d1 : decide (b < i ∧ i ≤ b + (l.length : Int)) = true := decide_eq_true c1
    obtain ⟨j, hj⟩ : ∃ j : Nat, i - b - 1 = (j : Int) := ⟨(i - b - 1).toNat, by omega⟩
    have hjl : j < l.length := by omega
    have hji : wrap64 (wrap64 (i - b) - 1) = (j : Int) := by unfold wrap64; omega
    have hji5w : IntKind.i64.wrap (IntKind.i64.wrap (i - b) - 1) = (j : Int) := by rw [i64_w, i64_w]; exact hji
    clear hji
    have ht : tm b l i = (rd_T105 l (j : Int)).f0 := by unfold tm; rw [if_pos c1, hj]
    rw [ht]
    have p1 : 0 ≤ (j : Int) := by omega
    have q1 : (j : Int) < (l.length : Int) := by omega
    obtain ⟨ad, A5, c5, rfl, hx0, _⟩ := at_T105 hC (j : Int) p1 q1
    rw [Int.toNat_natCast] at hx0
    replace p1 := eq_true p1
    replace q1 := eq_true q1
    clear hb h hC c1 hc
    go_enter Try.func36, Try.ntmps36
    go_wp2_with (first | (go_at_call 66; refine (has_calls (by repeat (first | exact HH.out | apply IsH.drew | apply IsH.drewN)) i).mono ?_; rintro e w' ⟨rfl, ⟨n, rfl⟩⟩; rw [d1]))
    repeat (go_quiet (fail); try go_wp2)
    go_ret
    exact ⟨by first | rfl | (simp [*]; done), by repeat (first | exact Drawn0.refl _ | apply Drawn0.step)⟩
  · have d1 : decide (b < i ∧ i ≤ b + (l.length : Int)) = false := decide_eq_false c1
    have ht : tm b l i = 0 := by unfold tm; rw [if_neg c1]
    rw [ht]
    clear c1 ht
    go_enter Try.func36, Try.ntmps36
    go_wp2_with (first | (go_at_call 66; refine (has_calls (by repeat (first | exact HH.out | apply IsH.drew | apply IsH.drewN)) i).mono ?_; rintro e w' ⟨rfl, ⟨n, rfl⟩⟩; rw [d1]))
    go_ret
    exact ⟨rfl, by repeat (first | exact Drawn0.refl _ | apply Drawn0.step)⟩

set_option maxHeartbeats 4000000 in
set_option maxRecDepth 100000 in
theorem newer_calls {B : Nat} {W : World} {g : Nat} {F : Nat → Prop} {b : Int} {l : List S105} (h : IsH B W g F b l) (last term : Int) :
    Calls Try.prog 39 #[.pointer (some ⟨g, 0, none⟩), .int .i64 last, .int .i64 term] W fun e w' =>
      e = .returned (.bool (decide (tm b l (b + (l.length : Int)) < term ∨ term = tm b l (b + (l.length : Int)) ∧ b + (l.length : Int) ≤ last))) ∧ Drawn0 W w' := by
  have HH := Aside0.mk h
  clear h
  obtain ⟨m, hm⟩ : ∃ m, tm b l (b + (l.length : Int)) = m := ⟨_, rfl⟩
  rw [hm]
  by_cases c1 : m < term
  · have d1 : decide (m < term) = true := decide_eq_true c1
    rw [show decide (m < term ∨ term = m ∧ b + (l.length : Int) ≤ last) = true by simp [c1]]
    clear c1
    go_enter Try.func39, Try.ntmps39
    go_wp2_with (first
      | (go_at_call 35; refine (last_calls (by repeat (first | exact HH.out | apply IsH.drew | apply IsH.drewN))).mono ?_; rintro e w' ⟨rfl, ⟨n, rfl⟩⟩)
      | (go_at_call 36; refine (term_calls (by repeat (first | exact HH.out | apply IsH.drew | apply IsH.drewN)) _).mono ?_; rintro e w' ⟨rfl, ⟨n, rfl⟩⟩; rw [hm]))
    go_ret
    exact ⟨rfl, by repeat (first | exact Drawn0.refl _ | apply Drawn0.step)⟩
  · have d1 : decide (m < term) = false := decide_eq_false c1
    by_cases c2 : term = m
    · subst c2
      rw [show decide (term < term ∨ term = term ∧ b + (l.length : Int) ≤ last) = decide (b + (l.length : Int) ≤ last) by simp]
      clear c1
      go_enter Try.func39, Try.ntmps39
      go_wp2_with (first
        | (go_at_call 35; refine (last_calls (by repeat (first | exact HH.out | apply IsH.drew | apply IsH.drewN))).mono ?_; rintro e w' ⟨rfl, ⟨n, rfl⟩⟩)
        | (go_at_call 36; refine (term_calls (by repeat (first | exact HH.out | apply IsH.drew | apply IsH.drewN)) _).mono ?_; rintro e w' ⟨rfl, ⟨n, rfl⟩⟩; rw [hm]))
      go_ret
      exact ⟨rfl, by repeat (first | exact Drawn0.refl _ | apply Drawn0.step)⟩
    · have d2 : (term == m) = false := beq_eq_false_iff_ne.mpr c2
      rw [show decide (m < term ∨ term = m ∧ b + (l.length : Int) ≤ last) = false by simp [c1, c2]]
      clear c1 c2
      go_enter Try.func39, Try.ntmps39
      go_wp2_with (first
        | (go_at_call 35; refine (last_calls (by repeat (first | exact HH.out | apply IsH.drew | apply IsH.drewN))).mono ?_; rintro e w' ⟨rfl, ⟨n, rfl⟩⟩)
        | (go_at_call 36; refine (term_calls (by repeat (first | exact HH.out | apply IsH.drew | apply IsH.drewN)) _).mono ?_; rintro e w' ⟨rfl, ⟨n, rfl⟩⟩; rw [hm]))
      go_ret
      exact ⟨rfl, by repeat (first | exact Drawn0.refl _ | apply Drawn0.step)⟩

/-- A new log. -/
theorem new_calls (W : World) (b : Int) (h0 : 0 ≤ b) (h1 : b ≤ 64) :
    Calls Try.prog 31 #[.int .i64 b] W fun e w' => e = .returned (.pointer (some ⟨W.heap.size, 0, none⟩)) ∧ IsH W.heap.size w' W.heap.size (fun k => k = W.heap.size) b [] ∧ Below W.heap.size W w' := by
  go_enter Try.func31, Try.ntmps31
  go_wp2
  go_ret
  refine ⟨rfl, ⟨.slice none 0 0, ?_, rfl, fun k hk => by omega, Kd.R_nil _ _ _ _ _, h0, by simpa using h1⟩, ?_⟩
  · exact heap_alloc_new W _
  · exact below_alloc (Below.refl _ _) _

end Go.Proofs.Ytbomomaidglegaa.Hist
