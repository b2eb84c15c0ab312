/- What synodallaw10.few tells. -/
import Derived.Test.YtbomomaidglegaaHistKnown
import Derived.Test.YtbomomaidglegaaXHistx2
namespace Go.Proofs.Ytbomomaidglegaa.Hist
open Go Go.RowKit Go.Proofs.Ytbomomaidglegaa.XHist Go.Proofs.YtbomomaidglegaaW.PrintWords Go.Proofs.YtbomomaidglegaaW.PrintLast Go.Proofs.YtbomomaidglegaaW.PrintMore

/-- A call that is not too much. -/
def Ok1 (x : S54) : Prop := x.f3.length ≤ 80 ∧ x.f4.length ≤ 80 ∧ ∀ e ∈ x.f4, e.f4.length ≤ 30
def From1 (l : List S54) (i : Nat) : Prop := ∀ x ∈ l.drop i, Ok1 x
theorem rd54_at (l : List S54) (i : Nat) (h : i < l.length) : rd_T54 l (i : Int) = l[i] := by simp [rd_T54, List.getD, h]

theorem few_l1 (l : List S54) (i : Nat) (hi : i < l.length) (h100 : i < 100) (he : (rd_T54 l (i : Int)).f4.length ≤ 80)
    (ih : ∃ k r, synodallaw10_few.l0 k l ((i + 1 : Nat) : Int) = some r ∧ (r = true → l.length ≤ 60 ∧ From1 l (i + 1))) (d : Nat) :
    ∀ j : Nat, j ≤ (rd_T54 l (i : Int)).f4.length → (rd_T54 l (i : Int)).f4.length - j = d →
      ∃ k r, synodallaw10_few.l1 k l (i : Int) (j : Int) = some r ∧ (r = true → (l.length ≤ 60 ∧ From1 l (i + 1)) ∧ ∀ e ∈ (rd_T54 l (i : Int)).f4.drop j, e.f4.length ≤ 30) := by
  have h0 : 0 ≤ (i : Int) := by omega
  have h1 : (i : Int) < (l.length : Int) := by omega
  have hw : wrap64 ((i : Int) + 1) = ((i + 1 : Nat) : Int) := by unfold wrap64; omega
  induction d with
  | zero =>
    intro j hj hd
    obtain ⟨k, r, hk, hr⟩ := ih
    refine ⟨k + 1, r, ?_, fun h => ⟨hr h, fun e he => ?_⟩⟩
    · simp only [synodallaw10_few.l1]
      rw [if_pos h0, if_pos h1, if_neg (by omega), hw]
      exact hk
    · rw [List.drop_eq_nil_of_le (by omega)] at he
      cases he
  | succ d ihd =>
    intro j hj hd
    have hlt : j < (rd_T54 l (i : Int)).f4.length := by omega
    have hwj : wrap64 ((j : Int) + 1) = ((j + 1 : Nat) : Int) := by unfold wrap64; omega
    have hrd : rd_T77 (rd_T54 l (i : Int)).f4 (j : Int) = (rd_T54 l (i : Int)).f4[j] := rd77_at _ j hlt
    obtain ⟨k, r, hk, hr⟩ := ihd (j + 1) (by omega) (by omega)
    have step : ∃ k2 r2, (if (((rd_T77 ((rd_T54 l (i : Int)).f4) (j : Int)).f3).size : Int) > 200 then (synodallaw10_few.j4 k2 l (i : Int) (j : Int) true) else (synodallaw10_few.j4 k2 l (i : Int) (j : Int) (decide ((((rd_T77 ((rd_T54 l (i : Int)).f4) (j : Int)).f4).length : Int) > 30)))) = some r2 ∧
        (r2 = true → (l.length ≤ 60 ∧ From1 l (i + 1)) ∧ ∀ e ∈ (rd_T54 l (i : Int)).f4.drop j, e.f4.length ≤ 30) := by
      by_cases c1 : (((rd_T77 ((rd_T54 l (i : Int)).f4) (j : Int)).f3).size : Int) > 200
      · exact ⟨1, false, by rw [if_pos c1]; simp [synodallaw10_few.j4], fun h => by cases h⟩
      · by_cases c2 : (((rd_T77 ((rd_T54 l (i : Int)).f4) (j : Int)).f4).length : Int) > 30
        · exact ⟨1, false, by rw [if_neg c1, decide_eq_true c2]; simp [synodallaw10_few.j4], fun h => by cases h⟩
        · refine ⟨k + 1, r, ?_, fun h => ⟨(hr h).1, fun e he => ?_⟩⟩
          · rw [if_neg c1, decide_eq_false c2]
            simp only [synodallaw10_few.j4]
            rw [if_neg (by decide), hwj]
            exact hk
          · rw [List.drop_eq_getElem_cons hlt] at he
            rcases List.mem_cons.1 he with rfl | he
            · rw [hrd] at c2; omega
            · exact (hr h).2 e he
    obtain ⟨k2, r2, h2, h3⟩ := step
    refine ⟨k2 + 1, r2, ?_, h3⟩
    simp only [synodallaw10_few.l1]
    rw [if_pos h0, if_pos h1, if_pos (by omega), if_pos (by omega)]
    exact h2

theorem few_l0 (l : List S54) (d : Nat) : ∀ i : Nat, i ≤ l.length → l.length - i = d → ∃ k r, synodallaw10_few.l0 k l (i : Int) = some r ∧ (r = true → l.length ≤ 60 ∧ From1 l i) := by
  induction d with
  | zero =>
    intro i hi hd
    refine ⟨2, decide ((l.length : Int) ≤ 60), ?_, fun h => ⟨by have := of_decide_eq_true h; omega, fun x hx => ?_⟩⟩
    · simp only [synodallaw10_few.l0]
      rw [if_neg (by omega)]
      simp only [synodallaw10_few.j1]
      rw [if_neg (by decide)]
    · rw [List.drop_eq_nil_of_le (by omega)] at hx
      cases hx
  | succ d ih =>
    intro i hi hd
    have hlt : i < l.length := by omega
    by_cases h100 : i < 100
    · have hih := ih (i + 1) (by omega) (by omega)
      have hx : rd_T54 l (i : Int) = l[i] := rd54_at l i hlt
      have step : ∃ k2 r2, (if (((rd_T54 l (i : Int)).f3).length : Int) > 80 then (synodallaw10_few.j2 k2 l (i : Int) true) else (synodallaw10_few.j2 k2 l (i : Int) (decide ((((rd_T54 l (i : Int)).f4).length : Int) > 80)))) = some r2 ∧ (r2 = true → l.length ≤ 60 ∧ From1 l i) := by
        by_cases c1 : (((rd_T54 l (i : Int)).f3).length : Int) > 80
        · exact ⟨1, false, by rw [if_pos c1]; simp [synodallaw10_few.j2], fun h => by cases h⟩
        · by_cases c2 : (((rd_T54 l (i : Int)).f4).length : Int) > 80
          · exact ⟨1, false, by rw [if_neg c1, decide_eq_true c2]; simp [synodallaw10_few.j2], fun h => by cases h⟩
          · obtain ⟨k, r, hk, hr⟩ := few_l1 l i hlt h100 (by omega) hih _ 0 (by omega) rfl
            refine ⟨k + 1, r, ?_, fun h => ⟨(hr h).1.1, fun x hxm => ?_⟩⟩
            · rw [if_neg c1, decide_eq_false c2]
              simp only [synodallaw10_few.j2]
              rw [if_neg (by decide)]
              exact hk
            · rw [List.drop_eq_getElem_cons hlt] at hxm
              rcases List.mem_cons.1 hxm with rfl | hxm
              · have h4 := (hr h).2
                rw [List.drop_zero] at h4
                rw [hx] at h4 c1 c2
                exact ⟨by omega, by omega, h4⟩
              · exact (hr h).1.2 x hxm
      obtain ⟨k2, r2, h2, h3⟩ := step
      refine ⟨k2 + 2, r2, ?_, h3⟩
      simp only [synodallaw10_few.l0]
      rw [if_pos (by omega), decide_eq_true (by omega)]
      simp only [synodallaw10_few.j1]
      rw [if_pos trivial, if_pos (by omega), if_pos (by omega)]
      exact h2
    · refine ⟨2, false, ?_, fun h => by cases h⟩
      simp only [synodallaw10_few.l0]
      rw [if_pos (by omega), decide_eq_false (by omega)]
      simp only [synodallaw10_few.j1]
      rw [if_neg (by decide), decide_eq_false (by omega)]

theorem few_calls (A : Option Addr) (c : Nat) (l : List S54) (w : World) (hC : Kd.C k54 w A l.length l) (hc : l.length ≤ c) :
    Calls Try.prog 30 #[.slice A l.length c] w fun e w' => ∃ r : Bool, e = .returned (.bool r) ∧ Drawn0 w w' ∧ (r = true → l.length ≤ 60 ∧ ∀ x ∈ l, Ok1 x) := by
  obtain ⟨k, r, hk, hr⟩ := few_l0 l l.length 0 (by omega) (by omega)
  exact (synodallaw10_few.calls k A c l r w hC hc hk).mono (by
    rintro e w' ⟨rfl, hd⟩
    exact ⟨r, rfl, hd, fun h => ⟨(hr h).1, fun x hx => (hr h).2 x (by simpa using hx)⟩⟩)

theorem within_calls (a n : Int) (w : World) (h1 : 1 ≤ n) (h2 : n ≤ 1000000) : Calls Try.prog 34 #[.int .i64 a, .int .i64 n] w fun e w' => ∃ v : Int, e = .returned (.int .i64 v) ∧ Drawn0 w w' ∧ 0 ≤ v ∧ v < n := by
  have h3 : Int.tmod a n < n := Int.tmod_lt_of_pos a (by omega)
  have h4 : -n < Int.tmod a n := by
    have := Int.tmod_lt_of_pos (-a) (show (0 : Int) < n by omega)
    rw [Int.neg_tmod] at this
    omega
  obtain ⟨v, hv, g1, g2⟩ : ∃ v, synodallaw10_within.f a n = some v ∧ 0 ≤ v ∧ v < n := by
    unfold synodallaw10_within.f
    rw [if_neg (by omega)]
    generalize Int.tmod a n = t at h3 h4 ⊢
    by_cases h : t < 0
    · rw [if_pos h]
      exact ⟨_, rfl, by unfold wrap64; omega, by unfold wrap64; omega⟩
    · rw [if_neg h]
      exact ⟨_, rfl, by omega, h3⟩
  exact (synodallaw10_within.calls a n v w hv).mono (by rintro e w' ⟨rfl, hd⟩; exact ⟨v, rfl, hd, g1, g2⟩)
end Go.Proofs.Ytbomomaidglegaa.Hist
