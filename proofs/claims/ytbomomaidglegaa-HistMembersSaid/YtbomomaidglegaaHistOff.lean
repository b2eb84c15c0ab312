/- Blocks and rows apart from a log; small laws. -/
import Derived.Test.YtbomomaidglegaaHistKnown
import Derived.Test.YtbomomaidglegaaXHistm2
import Derived.Deep.LoopGhost
import Derived.WalkSpells
namespace Go.Proofs.Ytbomomaidglegaa.Hist
open Go Go.RowKit Go.Proofs.Ytbomomaidglegaa.XHist Go.Proofs.YtbomomaidglegaaW.PrintWords Go.Proofs.YtbomomaidglegaaW.PrintLast Go.Proofs.YtbomomaidglegaaW.PrintMore
set_option linter.unusedVariables false
set_option linter.unusedSimpArgs false

theorem meas_step {n k : Nat} {v : Int} (h : k < n) (hv : v = (k : Int) + 1) : n - (intOf (.int .i64 v)).toNat < n - (intOf (.int .i64 (k : Int))).toNat := by
  subst hv
  simp only [intOf, Int.toNat_natCast]
  omega
theorem grown_below {W w1 : World} (h : W.grownBy w1 none) : Below W.heap.size W w1 := ⟨h.os, h.tape, h.output, h.size, fun k hk => h.block k hk (by simp)⟩
theorem tm_in (b : Int) (l : List S105) (j : Nat) (h : j < l.length) : tm b l (b + 1 + (j : Int)) = (l[j]).f0 := by
  unfold tm
  rw [if_pos (by omega), show b + 1 + (j : Int) - b - 1 = (j : Int) by omega, rd105_at l j h]
theorem tm_out (b : Int) (l : List S105) (i : Int) (h : ¬ (b < i ∧ i ≤ b + (l.length : Int))) : tm b l i = 0 := by
  unfold tm
  rw [if_neg h]
theorem tm_case (b : Int) (l : List S105) (i : Int) : tm b l i = 0 ∨ ∃ x ∈ l, tm b l i = x.f0 := by
  by_cases h : b < i ∧ i ≤ b + (l.length : Int)
  · obtain ⟨j, hj⟩ : ∃ j : Nat, i = b + 1 + (j : Int) := ⟨(i - b - 1).toNat, by omega⟩
    subst hj
    exact .inr ⟨_, List.getElem_mem (show j < l.length by omega), tm_in b l j (by omega)⟩
  · exact .inl (tm_out b l i h)

theorem within_calls (a n : Int) (w : World) (h1 : 1 ≤ n) (h2 : n ≤ 1000000) : Calls Try.prog 34 #[.int .i64 a, .int .i64 n] w fun e w' => ∃ v : Int, e = .returned (.int .i64 v) ∧ Drawn0 w w' ∧ 0 ≤ v ∧ v < n := by
  have h3 : Int.tmod a n < n := Int.tmod_lt_of_pos a (by omega)
  have h4 : -n < Int.tmod a n := by
    have := Int.tmod_lt_of_pos (-a) (show (0 : Int) < n by omega)
    rw [Int.neg_tmod] at this
    omega
  obtain ⟨v, hv, g1, g2⟩ : ∃ v, synodallaw10_within.f a n = some v ∧ 0 ≤ v ∧ v < n := by
    unfold synodallaw10_within.f
    rw [if_neg (by omega)]
    generalize Int.tmod a n = t at h3 h4 ⊢
    by_cases h : t < 0
    · rw [if_pos h]
      exact ⟨_, rfl, by unfold wrap64; omega, by unfold wrap64; omega⟩
    · rw [if_neg h]
      exact ⟨_, rfl, by omega, h3⟩
  exact (synodallaw10_within.calls a n v w hv).mono (by rintro e w' ⟨rfl, hd⟩; exact ⟨v, rfl, hd, g1, g2⟩)
section
variable {W W' : World} {F FX : Nat → Prop}
/-- Apart from both. -/
def Off (W : World) (F FX : Nat → Prop) (q : Nat) : Prop := ¬ F q ∧ ¬ FX q ∧ q < W.heap.size
theorem Off.size {q : Nat} (h : Off W F FX q) (hz : W.heap.size ≤ W'.heap.size) : Off W' F FX q := ⟨h.1, h.2.1, Nat.lt_of_lt_of_le h.2.2 hz⟩
theorem Off.putH {q : Nat} (h : Off W F FX q) {F' : Nat → Prop} (hF : ∀ q, F' q → F q ∨ W.heap.size ≤ q) (hz : W.heap.size ≤ W'.heap.size) : Off W' F' FX q :=
  ⟨fun hf => (hF q hf).elim h.1 (fun hge => Nat.lt_irrefl _ (Nat.lt_of_lt_of_le h.2.2 hge)), h.2.1, Nat.lt_of_lt_of_le h.2.2 hz⟩
theorem Off.putX {q : Nat} (h : Off W F FX q) {FX' : Nat → Prop} (hF : ∀ q, FX' q → FX q ∨ W.heap.size ≤ q) (hz : W.heap.size ≤ W'.heap.size) : Off W' F FX' q :=
  ⟨h.1, fun hf => (hF q hf).elim h.2.1 (fun hge => Nat.lt_irrefl _ (Nat.lt_of_lt_of_le h.2.2 hge)), Nat.lt_of_lt_of_le h.2.2 hz⟩
end
section
variable {α : Type} {d : Kd α} {e B : Nat} {W W' : World} {F FX : Nat → Prop} {v : Value} {xs : List α}
/-- A row of its own apart from both logs. -/
def Rw {α : Type} (d : Kd α) (e : Nat) (W : World) (B : Nat) (F FX : Nat → Prop) (v : Value) (xs : List α) : Prop := d.R e W B (Off W F FX) v xs
theorem Rw.below (h : Rw d e W B F FX v xs) (hb : Below W.heap.size W W') : Rw d e W' B F FX v xs := Kd.R_mono (Kd.R_below h hb) (fun _ hq => hq.size hb.size)
theorem Rw.kept {K : Nat → Prop} (h : Rw d e W B F FX v xs) (hk : Kept K W W') (h1 : ∀ q, K q → F q ∨ FX q) : Rw d e W' B F FX v xs := Kd.R_mono (R_kept_ h hk (fun q hq hK => (h1 q hK).elim hq.1 hq.2.1)) (fun _ hq => hq.size hk.size)
theorem Rw.putH (h : Rw d e W B F FX v xs) {F' : Nat → Prop} (hF : ∀ q, F' q → F q ∨ W.heap.size ≤ q) (hk : Kept F W W') : Rw d e W' B F' FX v xs := Kd.R_mono (R_kept_ h hk (fun q hq hf => hq.1 hf)) (fun _ hq => hq.putH hF hk.size)
theorem Rw.putX (h : Rw d e W B F FX v xs) {FX' : Nat → Prop} (hF : ∀ q, FX' q → FX q ∨ W.heap.size ≤ q) (hk : Kept FX W W') : Rw d e W' B F FX' v xs := Kd.R_mono (R_kept_ h hk (fun q hq hf => hq.2.1 hf)) (fun _ hq => hq.putX hF hk.size)
theorem Rw.stH {A : Option Addr} {n c : Nat} (h : Rw d e W B F FX (.slice A n c) xs) : ∀ W', Kept F W W' → d.C W' A xs.length xs := fun W' hk => (Kd.R_reads' (R_kept_ h hk (fun q hq hf => hq.1 hf))).2.2
theorem Rw.stX {A : Option Addr} {n c : Nat} (h : Rw d e W B F FX (.slice A n c) xs) : ∀ W', Kept FX W W' → d.C W' A xs.length xs := fun W' hk => (Kd.R_reads' (R_kept_ h hk (fun q hq hf => hq.2.1 hf))).2.2
end
/-- A block of its own apart from both logs. -/
def Bk (W : World) (F FX : Nat → Prop) (q : Nat) (cs : Array Value) (t : Nat) : Prop := W.heap[q]? = some (.cells cs t (0, 0)) ∧ ¬ F q ∧ ¬ FX q
section
variable {W W' : World} {F FX : Nat → Prop} {q : Nat} {cs : Array Value} {t : Nat}
theorem Bk.below (h : Bk W F FX q cs t) (hb : Below W.heap.size W W') : Bk W' F FX q cs t := ⟨blk_below h.1 hb, h.2⟩
theorem Bk.kept {K : Nat → Prop} (h : Bk W F FX q cs t) (hk : Kept K W W') (hK : ¬ K q) : Bk W' F FX q cs t := ⟨blk_kept hk h.1 hK, h.2⟩
theorem Bk.putH (h : Bk W F FX q cs t) {F' : Nat → Prop} (hF : ∀ q, F' q → F q ∨ W.heap.size ≤ q) (hk : Kept F W W') : Bk W' F' FX q cs t :=
  ⟨blk_kept hk h.1 h.2.1, fun hf => (hF q hf).elim h.2.1 (fun hge => Nat.lt_irrefl _ (Nat.lt_of_lt_of_le (blk_lt h.1) hge)), h.2.2⟩
theorem Bk.putX (h : Bk W F FX q cs t) {FX' : Nat → Prop} (hF : ∀ q, FX' q → FX q ∨ W.heap.size ≤ q) (hk : Kept FX W W') : Bk W' F FX' q cs t :=
  ⟨blk_kept hk h.1 h.2.2, h.2.1, fun hf => (hF q hf).elim h.2.2 (fun hge => Nat.lt_irrefl _ (Nat.lt_of_lt_of_le (blk_lt h.1) hge))⟩
end
end Go.Proofs.Ytbomomaidglegaa.Hist
