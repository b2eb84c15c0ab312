/- synodallaw10.grown: a log of entries of rising terms. -/
import Derived.Test.YtbomomaidglegaaHistFew
import Derived.Deep.LoopGhost
import Derived.WalkSpells
namespace Go.Proofs.Ytbomomaidglegaa.Hist
open Go Go.RowKit Go.Proofs.Ytbomomaidglegaa.XHist Go.Proofs.YtbomomaidglegaaW.PrintWords Go.Proofs.YtbomomaidglegaaW.PrintLast Go.Proofs.YtbomomaidglegaaW.PrintMore
set_option linter.unusedVariables false
set_option linter.unusedSimpArgs false


/-- Terms that rise from 1 on. -/
def Up (l : List S105) : Prop := List.Pairwise (fun a b : S105 => a.f0 ≤ b.f0) l ∧ ∀ x ∈ l, 1 ≤ x.f0
/-- A log of entries of rising terms, none beyond t. -/
def GrownL (l : List S105) (t : Int) : Prop := Up l ∧ (∀ x ∈ l, x.f0 ≤ t) ∧ ∀ (j : Nat) (h : j < l.length), (l[j]).f1 = (⟨1, 1, (j : Int) + 1, ⟨#[]⟩, [], 0⟩ : S77)

theorem up_snoc {l : List S105} {t : Int} {e : S77} (h : Up l) (h1 : 1 ≤ t) (h2 : ∀ x ∈ l, x.f0 ≤ t) : Up (l ++ [⟨t, e⟩]) := by
  refine ⟨List.pairwise_append.2 ⟨h.1, by simp, fun a ha b hb => ?_⟩, fun x hx => ?_⟩
  · simp only [List.mem_singleton] at hb
    subst hb
    exact h2 a ha
  · rcases List.mem_append.1 hx with hx | hx
    · exact h.2 x hx
    · simp only [List.mem_singleton] at hx
      subst hx
      exact h1

theorem tm_in (b : Int) (l : List S105) (j : Nat) (h : j < l.length) : tm b l (b + 1 + (j : Int)) = (l[j]).f0 := by
  unfold tm
  rw [if_pos (by omega), show b + 1 + (j : Int) - b - 1 = (j : Int) by omega, rd105_at l j h]
theorem tm_out (b : Int) (l : List S105) (i : Int) (h : ¬ (b < i ∧ i ≤ b + (l.length : Int))) : tm b l i = 0 := by
  unfold tm
  rw [if_neg h]
theorem tm_case (b : Int) (l : List S105) (i : Int) : tm b l i = 0 ∨ ∃ x ∈ l, tm b l i = x.f0 := by
  by_cases h : b < i ∧ i ≤ b + (l.length : Int)
  · obtain ⟨j, hj⟩ : ∃ j : Nat, i = b + 1 + (j : Int) := ⟨(i - b - 1).toNat, by omega⟩
    subst hj
    exact .inr ⟨_, List.getElem_mem (show j < l.length by omega), tm_in b l j (by omega)⟩
  · exact .inl (tm_out b l i h)

theorem grown_snoc {l : List S105} {t t' : Int} (h : GrownL l t) (h1 : 1 ≤ t') (ht : t ≤ t') : GrownL (l ++ [⟨t', (⟨1, 1, (l.length : Int) + 1, ⟨#[]⟩, [], 0⟩ : S77)⟩]) t' := by
  refine ⟨up_snoc h.1 h1 (fun x hx => Int.le_trans (h.2.1 x hx) ht), fun x hx => ?_, fun j hj => ?_⟩
  · rcases List.mem_append.1 hx with hx | hx
    · exact Int.le_trans (h.2.1 x hx) ht
    · simp only [List.mem_singleton] at hx
      subst hx
      exact Int.le_refl _
  · rw [List.length_append, List.length_singleton] at hj
    by_cases hlt : j < l.length
    · rw [List.getElem_append_left hlt]
      exact h.2.2 j hlt
    · obtain rfl : j = l.length := by omega
      rw [List.getElem_append_right (Nat.le_refl _)]
      simp

theorem app_grown {l : List S105} {t t' : Int} (h : GrownL l t) (ht : t ≤ t') (hl : l.length < 40) (e : S77) (h1 : 1 ≤ t := by omega) : appF 0 l t' [e] = ((l.length : Int) + 1, 0, l ++ [⟨t', e⟩]) := by
  have hm : tm 0 l (0 + (l.length : Int)) ≤ t' := by
    rcases tm_case 0 l (0 + (l.length : Int)) with h0 | ⟨x, hx, h0⟩
    · omega
    · have := h.2.1 x hx; omega
  unfold appF
  rw [if_neg (by omega), if_neg (by simp; omega)]
  simp [appL]

theorem Live.lower {w0 w1 W : World} {g : Nat} {F : Nat → Prop} {b : Int} {l : List S105} (h : Live w1 W g F b l) (hB : Below w0.heap.size w0 w1) : Live w0 W g F b l := by
  obtain ⟨⟨v, hb, hg, hF, hR, r⟩, hlt, hbe⟩ := h
  exact ⟨⟨v, hb, hg, fun q hq => Nat.le_trans hB.size (hF q hq), Kd.R_lower hR hB.size, r⟩, hlt, below_then hB hB.size hbe⟩

set_option maxHeartbeats 8000000 in
set_option maxRecDepth 100000 in
theorem grown_calls (W : World) (A : Option Addr) (c : Nat) (xs : List Int) (hC : Kd.C (Kd.int .i64) W A xs.length xs) :
    Calls Try.prog 38 #[.slice A xs.length c] W fun e w' => ∃ (g : Nat) (F : Nat → Prop) (l : List S105) (t : Int), e = .returned (.pointer (some ⟨g, 0, none⟩)) ∧ Live W w' g F 0 l ∧ (∀ q, F q → W.heap.size ≤ q) ∧ GrownL l t ∧ 1 ≤ t ∧ t ≤ 100 ∧ l.length ≤ 40 := by
  have hu77 := Try.underlying77
  have HC := Aside0.mk hC
  clear hC
  go_enter Try.func38, Try.ntmps38
  go_wp2_with (first
    | (go_at_call 31; refine (new_live W 0 (by omega) (by omega) (Below.refl _ _)).mono ?_; rintro e_ w1 ⟨g, F1, rfl, hl_, _, _⟩; have HL1 := Aside0.mk hl_; clear hl_))
  go_loopw [4, 5] (fun v4 v5 wr => ∃ (k : Nat) (t : Int) (F : Nat → Prop) (l : List S105), v4 = .int .i64 t ∧ v5 = .int .i64 k ∧ l.length = k ∧ k ≤ 40 ∧ 1 ≤ t ∧ t ≤ 1 + 2 * (k : Int) ∧ Aside0 (Live W wr g F 0 l) ∧ Aside0 (GrownL l t))
    (fun _ v5 _ => 40 - (intOf v5).toNat)
  case atStart =>
    exact ⟨0, 1, F1, [], rfl, rfl, rfl, by omega, by omega, by omega, HL1, ⟨⟨⟨List.Pairwise.nil, by simp⟩, by simp, fun j hj => by simp at hj⟩⟩⟩
  case round =>
    obtain ⟨k, t, F, l, rfl, rfl, hlk, hk40, ht1, ht2, HL, HG⟩ := hrel
    clear HL1
    by_cases c1 : (k : Int) < (xs.length : Int)
    · by_cases c2 : (k : Int) < 40
      · have p1 : 0 ≤ (k : Int) := by omega
        obtain ⟨ad, rfl, hx0⟩ := Kd.at_int (Kd.C_below HC.out HL.out.2.2) (k : Int) p1 c1
        rw [Int.toNat_natCast] at hx0
        have d1 := decide_eq_true c1
        have d2 := decide_eq_true c2
        have HK40 := Aside0.mk (show l.length < 40 by omega)
        have HLK := Aside0.mk hlk
        replace p1 := eq_true p1
        replace c1 := eq_true c1
        replace c2 := eq_true c2
        clear hlk
        go_wp2_with (first
          | (go_at_call 34; refine (within_calls (rd xs (k : Int)) 3 _ (by omega) (by omega)).mono ?_; rintro e_ w' ⟨v, rfl, ⟨nd, rfl⟩, hv0, hv1⟩; have HL1 := Aside0.mk (HL.out.drewN nd))
          | ((with_reducible refine gate_dst (N := 32) rfl ?_); refine Kd.R_lit k77 _ 77 ?hg (N := 32) ?hd (xs := [(⟨1, 1, (k : Int) + 1, ⟨#[]⟩, [], 0⟩ : S77)]) (inner := [.int .i64 1, .int .i64 1, .int .i64 ((k : Int) + 1), .string ⟨#[]⟩, .slice none 0 0, .int .i64 0]) (ok := fun _ => True) (okp := fun _ => False) ?hr ?hp (fun _ _ => trivial) trivial (Below.refl _ _) (Nat.le_refl _) (by simp) ?_; (case hd => rfl); (case hg => rfl); (case hr => first | (go_simp; done) | (go_simp; rfl)); (case hp => exact Reps.cons_ (show Kd.M k77 _ _ _ (⟨1, 1, (k : Int) + 1, ⟨#[]⟩, [], 0⟩ : S77) [.int .i64 1, .int .i64 1, .int .i64 ((k : Int) + 1), .string ⟨#[]⟩, .slice none 0 0, .int .i64 0] from k77_mkM _ _ _ (⟨1, 1, (k : Int) + 1, ⟨#[]⟩, [], 0⟩ : S77) (Kd.R_nil _ _ _ _ _)) rfl (Reps.none _ _)); intro v2 w2 hr_ hb_ hg_ hn_; clear hg_ hn_; have n0_ := Aside0.mk hr_; have n1_ := Aside0.mk hb_; clear hr_ hb_; have HL2 := Aside0.mk (HL1.out.below n1_.out); have HR2 := n0_; clear n0_ n1_; obtain ⟨A2, c2, e2_⟩ := Kd.R_slice HR2.out; subst e2_)
          | (go_at_call 33; refine (append_live HL2.out (t + v) A2 c2 [(⟨1, 1, (k : Int) + 1, ⟨#[]⟩, [], 0⟩ : S77)] (stable_of_R HR2.out (fun q hq => HL1.out.lt q hq)) (Kd.R_reads' HR2.out).2.1 (by simp) (by simp)).mono ?_; rintro e_ w3 ⟨F3, rfl, hl_, _, hk3_⟩; have hap_ := app_grown HG.out (show t ≤ t + v by omega) (show l.length < 40 from HK40.out) (⟨1, 1, (k : Int) + 1, ⟨#[]⟩, [], 0⟩ : S77); rw [hap_, HLK.out]; rw [hap_] at hl_; have HL3 := Aside0.mk hl_; clear hl_ hap_ HL1 HL2 HR2))
        case roundEnd =>
          have hg := grown_snoc HG.out (show 1 ≤ t + v by omega) (show t ≤ t + v by omega)
          rw [HLK.out] at hg
          refine ⟨⟨k + 1, t + v, F3, _, rfl, rfl, by rw [List.length_append, List.length_singleton, HLK.out], ?_, by omega, by omega, HL3, ⟨hg⟩⟩, ?_⟩
          · have := HK40.out
            have := HLK.out
            omega
          · have := HK40.out
            have := HLK.out
            simp only [intOf, Int.toNat_natCast]
            omega
      · have d1 := decide_eq_true c1
        have d2 := decide_eq_false c2
        have HLK := Aside0.mk hlk
        clear hlk
        go_wp2
        go_ret
        exact ⟨g, rfl, F, l, HL.out, HL.out.ge, t, HG.out, ht1, by omega, by rw [HLK.out]; exact hk40⟩
    · have d1 := decide_eq_false c1
      have HLK := Aside0.mk hlk
      clear hlk
      go_wp2
      go_ret
      exact ⟨g, rfl, F, l, HL.out, HL.out.ge, t, HG.out, ht1, by omega, by rw [HLK.out]; exact hk40⟩

end Go.Proofs.Ytbomomaidglegaa.Hist
