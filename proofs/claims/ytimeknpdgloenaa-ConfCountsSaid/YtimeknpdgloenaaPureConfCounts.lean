/- For every list of votes and every plain configuration: the quorum's answer is 'more than half of its members are among the votes'. -/
import Derived.Test.YtimeknpdgloenaaPConfCountsx2
namespace Go.Proofs.Ytimeknpdgloenaa.Pure
open Go.RowKit Go.Proofs.Ytimeknpdgloenaa.PConfCounts Go.Proofs.YtimeknpdgloenaaW.PrintWords Go.Proofs.YtimeknpdgloenaaW.PrintLast

theorem wrap_small {x : Int} (h0 : -1000000000000 ≤ x) (h : x ≤ 1000000000000) : wrap64 x = x := by
  unfold wrap64
  omega

theorem rd_at (l : List Int) (i : Nat) (h : i < l.length) : rd l (i : Int) = l[i] := by
  unfold rd
  simp [List.getD, h]

theorem index_l (l : List Int) (a : Int) (hl : l.length ≤ 1000000) (d : Nat) : ∀ (k i : Nat), i ≤ l.length → l.length - i = d → d < k →
    ∃ r, slices_Index_int_int.l0 k l a (l.length : Int) (i : Int) = some r ∧ (r ≥ 0 ↔ a ∈ l.drop i) := by
  induction d with
  | zero =>
    intro k i h1 h2 hk
    obtain ⟨k, rfl⟩ : ∃ m, k = m + 1 := ⟨k - 1, by omega⟩
    refine ⟨-1, ?_, ?_⟩
    · simp only [slices_Index_int_int.l0]; rw [if_neg (by omega)]
    · have : l.drop i = [] := List.drop_eq_nil_of_le (by omega)
      simp [this]
  | succ d ih =>
    intro k i h1 h2 hk
    obtain ⟨k, rfl⟩ : ∃ m, k = m + 1 := ⟨k - 1, by omega⟩
    have hlt : i < l.length := by omega
    have hd := List.drop_eq_getElem_cons hlt
    simp only [slices_Index_int_int.l0]
    rw [if_pos (by omega), if_pos (by omega), if_pos (by omega), rd_at l i hlt]
    by_cases e : a = l[i]
    · rw [if_pos e]
      exact ⟨_, rfl, by rw [hd]; simp [← e]⟩
    · rw [if_neg e, show wrap64 ((i : Int) + 1) = ((i + 1 : Nat) : Int) from by rw [wrap_small (by omega) (by omega)]; rfl]
      obtain ⟨r, hr, h⟩ := ih k (i + 1) (by omega) (by omega) (by omega)
      exact ⟨r, hr, by rw [h, hd, List.mem_cons]; exact ⟨Or.inr, fun h' => h'.resolve_left e⟩⟩

theorem contains_f (l : List Int) (a : Int) (hl : l.length ≤ 1000000) (k : Nat) (hk : l.length < k) :
    slices_Contains_int_int.f k l a = some (decide (a ∈ l)) := by
  obtain ⟨r, hr, h⟩ := index_l l a hl l.length k 0 (by omega) (by omega) hk
  unfold slices_Contains_int_int.f slices_Index_int_int.f
  rw [show (0 : Int) = ((0 : Nat) : Int) from rfl, hr]
  simp only [Option.bind_some]
  rw [List.drop_zero] at h
  congr 1
  exact decide_eq_decide.mpr h

/-- How many of l are among the votes. -/
def votes (yes l : List Int) : Nat := l.countP (fun x => decide (x ∈ yes))

theorem votes_drop (yes l : List Int) (i : Nat) (h : i < l.length) : votes yes (l.drop i) = (if l[i] ∈ yes then 1 else 0) + votes yes (l.drop (i + 1)) := by
  unfold votes
  rw [List.drop_eq_getElem_cons h, List.countP_cons]
  by_cases e : l[i] ∈ yes <;> simp [e]
  omega

theorem votes_le (yes l : List Int) : votes yes l ≤ l.length := List.countP_le_length

theorem half_l (l yes : List Int) (hl : l.length ≤ 1000000) (hy : yes.length ≤ 1000000) (d : Nat) : ∀ (k i : Nat) (n : Int), i ≤ l.length → l.length - i = d → d + yes.length + 1 < k → 0 ≤ n → n ≤ i →
    conf_half.l0 k l yes n l (l.length : Int) (i : Int) = some (decide (2 * (n + votes yes (l.drop i)) > (l.length : Int))) := by
  induction d with
  | zero =>
    intro k i n h1 h2 hk h3 h4
    obtain ⟨k, rfl⟩ : ∃ m, k = m + 1 := ⟨k - 1, by omega⟩
    have : l.drop i = [] := List.drop_eq_nil_of_le (by omega)
    simp only [conf_half.l0]; rw [if_neg (by omega), this, wrap_small (by omega) (by omega)]
    simp [votes]
  | succ d ih =>
    intro k i n h1 h2 hk h3 h4
    obtain ⟨k, rfl⟩ : ∃ m, k = m + 1 := ⟨k - 1, by omega⟩
    have hlt : i < l.length := by omega
    simp only [conf_half.l0]
    rw [if_pos (by omega), if_pos (by omega), if_pos (by omega), rd_at l i hlt, contains_f yes l[i] hy k (by omega)]
    simp only [Option.bind_some]
    rw [show wrap64 ((i : Int) + 1) = ((i + 1 : Nat) : Int) from by rw [wrap_small (by omega) (by omega)]; rfl, votes_drop yes l i hlt]
    by_cases e : l[i] ∈ yes
    · rw [if_pos (by simpa using e), if_pos e, wrap_small (by omega) (by omega), ih k (i + 1) (n + 1) (by omega) (by omega) (by omega) (by omega) (by omega)]
      congr 1
      exact decide_eq_decide.mpr (by omega)
    · rw [if_neg (by simpa using e), if_neg e, ih k (i + 1) n (by omega) (by omega) (by omega) (by omega) (by omega)]
      congr 1
      exact decide_eq_decide.mpr (by omega)

theorem half_f (l yes : List Int) (hl : l.length ≤ 1000000) (hy : yes.length ≤ 1000000) (k : Nat) (hk : l.length + yes.length + 1 < k) :
    conf_half.f k l yes = some (decide (2 * (votes yes l : Int) > (l.length : Int))) := by
  have h := half_l l yes hl hy l.length k 0 0 (by omega) (by omega) hk (by omega) (by omega)
  unfold conf_half.f
  rw [show (0 : Int) = ((0 : Nat) : Int) from rfl] at *
  rw [h, List.drop_zero]
  congr 1
  exact decide_eq_decide.mpr (by omega)

theorem quorum_f (old new yes : List Int) (ho : old.length ≤ 1000000) (hl : new.length ≤ 1000000) (hy : yes.length ≤ 1000000) (k : Nat) (hk : old.length + new.length + yes.length + 1 < k) :
    conf_Quorum.f k old new yes = some (decide (2 * (votes yes new : Int) > (new.length : Int)) && (decide (old = []) || decide (2 * (votes yes old : Int) > (old.length : Int)))) := by
  unfold conf_Quorum.f conf_Joint.f
  rw [half_f new yes hl hy k (by omega)]
  simp only [Option.bind_some]
  by_cases h : 2 * (votes yes new : Int) > (new.length : Int)
  · rw [if_pos (by simpa using h)]
    by_cases e : old = []
    · subst e; simp [h]
    · have : 0 < old.length := List.length_pos_iff.mpr e
      rw [if_pos (by simp; omega), half_f old yes ho hy k (by omega)]
      simp [e, h]
  · rw [if_neg (by simpa using h)]
    simp [h]

theorem known_f (k : Nat) (hk : 10 ≤ k) : synodallaw8_known.f k = some true := by
  unfold synodallaw8_known.f
  rw [quorum_f _ _ _ (by simp) (by simp) (by simp) k (by simp; omega), quorum_f _ _ _ (by simp) (by simp) (by simp) k (by simp; omega)]
  decide

theorem list_l (bits : Int) (d : Nat) : ∀ (k : Nat) (i : Int) (out : List Int), 0 ≤ i → i ≤ 9 → 9 - i = d → 2 * d + 1 < k → out.length ≤ i →
    ∃ r, synodallaw8_List.l0 k bits out i = some r ∧ r.length ≤ 9 := by
  induction d with
  | zero =>
    intro k i out h0 h1 hd hk ho
    obtain ⟨k, rfl⟩ : ∃ m, k = m + 2 := ⟨k - 2, by omega⟩
    refine ⟨out, ?_, by omega⟩
    simp only [synodallaw8_List.l0]; rw [if_neg (by omega)]; simp [synodallaw8_List.j1]
  | succ d ih =>
    intro k i out h0 h1 hd hk ho
    obtain ⟨k, rfl⟩ : ∃ m, k = m + 2 := ⟨k - 2, by omega⟩
    simp only [synodallaw8_List.l0]; rw [if_pos (by omega)]; simp only [synodallaw8_List.j1]
    rw [wrap_small (by omega) (by omega)]
    by_cases e : (out.length : Int) < 7
    · rw [if_pos (by simpa using e), if_pos h0]
      by_cases b : Go.bits .and .i64 (shr .i64 bits i) 1 = 1
      · rw [if_pos b, if_pos (by omega)]
        exact ih k (i + 1) _ (by omega) (by omega) (by omega) (by omega) (by simp; omega)
      · rw [if_neg b]
        exact ih k (i + 1) _ (by omega) (by omega) (by omega) (by omega) (by omega)
    · rw [if_neg (by simpa using e)]
      exact ⟨_, rfl, by omega⟩

theorem plain_f (bits : Int) (k : Nat) (hk : 20 ≤ k) : ∃ r, synodallaw8_Plain.f k bits = some ([], r) ∧ r.length ≤ 9 := by
  obtain ⟨r, hr, h⟩ := list_l bits 9 k 0 [] (by omega) (by omega) (by omega) (by omega) (by simp)
  unfold synodallaw8_Plain.f synodallaw8_List.f
  rw [hr]
  simp only [Option.bind_some]
  by_cases e : (r.length : Int) = 0
  · rw [if_pos e]; exact ⟨_, rfl, by simp⟩
  · rw [if_neg e]; exact ⟨_, rfl, h⟩

theorem inner_l (yes new : List Int) (n : Int) (i : Nat) (hi : i < new.length) (hy : yes.length ≤ 1000000) (d : Nat) : ∀ (k j : Nat) (b : Bool), j ≤ yes.length → yes.length - j = d → d < k →
    ∃ k', k' + d + 1 = k ∧ synodallaw8_ConfCounts.l1 k yes n (i : Int) b (j : Int) [] new =
      (if b = true ∨ new[i] ∈ yes.drop j then synodallaw8_ConfCounts.l0 k' yes (wrap64 (n + 1)) (wrap64 ((i : Int) + 1)) [] new else synodallaw8_ConfCounts.l0 k' yes n (wrap64 ((i : Int) + 1)) [] new) := by
  induction d with
  | zero =>
    intro k j b h1 h2 hk
    obtain ⟨k, rfl⟩ : ∃ m, k = m + 1 := ⟨k - 1, by omega⟩
    refine ⟨k, by omega, ?_⟩
    have : yes.drop j = [] := List.drop_eq_nil_of_le (by omega)
    simp only [synodallaw8_ConfCounts.l1]; rw [if_neg (by omega), this]
    simp
  | succ d ih =>
    intro k j b h1 h2 hk
    obtain ⟨k, rfl⟩ : ∃ m, k = m + 1 := ⟨k - 1, by omega⟩
    have hlt : j < yes.length := by omega
    have hw : wrap64 ((j : Int) + 1) = ((j + 1 : Nat) : Int) := by rw [wrap_small (by omega) (by omega)]; rfl
    simp only [synodallaw8_ConfCounts.l1]
    rw [if_pos (by omega), hw]
    by_cases hb : b = true
    · rw [if_pos hb]
      obtain ⟨k', hk', h⟩ := ih k (j + 1) true (by omega) (by omega) (by omega)
      exact ⟨k', by omega, by rw [h]; simp [hb]⟩
    · rw [if_neg hb, if_pos (by omega), if_pos (by omega), if_pos (by omega), rd_at yes j hlt, rd_at new i hi]
      obtain ⟨k', hk', h⟩ := ih k (j + 1) (yes[j] == new[i]) (by omega) (by omega) (by omega)
      refine ⟨k', by omega, ?_⟩
      rw [h]
      have hd := List.drop_eq_getElem_cons hlt
      by_cases e : new[i] = yes[j]
      · rw [if_pos (by simp [e]), if_pos (Or.inr (by rw [hd, e]; exact List.mem_cons_self))]
      · have e' : ((yes[j] == new[i]) = true ∨ new[i] ∈ yes.drop (j + 1)) ↔ (b = true ∨ new[i] ∈ yes.drop j) := by
          rw [hd, List.mem_cons]
          simp only [beq_iff_eq]
          constructor
          · rintro (x | x)
            · exact absurd x.symm e
            · exact Or.inr (Or.inr x)
          · rintro (x | x | x)
            · exact absurd x hb
            · exact absurd x e
            · exact Or.inr x
        by_cases q : new[i] ∈ yes.drop (j + 1)
        · rw [if_pos (Or.inr q), if_pos (e'.mp (Or.inr q))]
        · rw [if_neg (fun x => x.elim (fun x => e (beq_iff_eq.mp x).symm) q), if_neg (fun x => (e'.mpr x).elim (fun x => e (beq_iff_eq.mp x).symm) q)]

theorem outer_l (yes new : List Int) (hn : new.length ≤ 1000) (hy : yes.length ≤ 1000) (d : Nat) : ∀ (k i : Nat) (n : Int), i ≤ new.length → new.length - i = d → d * (yes.length + 3) + new.length + yes.length + 3 < k → 0 ≤ n → n ≤ i →
    n + votes yes (new.drop i) = votes yes new →
    synodallaw8_ConfCounts.l0 k yes n (i : Int) [] new = some true := by
  induction d with
  | zero =>
    intro k i n h1 h2 hk h3 h4 h5
    obtain ⟨k, rfl⟩ : ∃ m, k = m + 1 := ⟨k - 1, by omega⟩
    have : new.drop i = [] := List.drop_eq_nil_of_le (by omega)
    rw [this] at h5
    simp only [synodallaw8_ConfCounts.l0]; rw [if_neg (by omega), quorum_f _ _ _ (by simp) (by omega) (by omega) k (by simp; omega), wrap_small (by omega) (by omega)]
    have h6 : n = votes yes new := by simpa [votes] using h5
    rw [h6]
    simp
  | succ d ih =>
    intro k i n h1 h2 hk h3 h4 h5
    obtain ⟨k, rfl⟩ : ∃ m, k = m + 1 := ⟨k - 1, by omega⟩
    have hlt : i < new.length := by omega
    simp only [synodallaw8_ConfCounts.l0]; rw [if_pos (by omega), show (0 : Int) = ((0 : Nat) : Int) from rfl]
    rw [Nat.succ_mul] at hk
    obtain ⟨k', hk', h⟩ := inner_l yes new n i hlt (by omega) yes.length k 0 false (by omega) (by omega) (by omega)
    rw [h, show wrap64 ((i : Int) + 1) = ((i + 1 : Nat) : Int) from by rw [wrap_small (by omega) (by omega)]; rfl, List.drop_zero, wrap_small (by omega) (by omega)]
    rw [votes_drop yes new i hlt] at h5
    by_cases e : new[i] ∈ yes
    · rw [if_pos (Or.inr e)]
      rw [if_pos e] at h5
      exact ih k' (i + 1) (n + 1) (by omega) (by omega) (by omega) (by omega) (by omega) (by omega)
    · rw [if_neg (by simpa using e)]
      rw [if_neg e] at h5
      exact ih k' (i + 1) n (by omega) (by omega) (by omega) (by omega) (by omega) (by omega)

theorem ConfCounts : synodallaw8_ConfCounts.Pure := by
  intro bits yes hw hm hs hx
  obtain ⟨K, hK⟩ : ∃ K, 1000 ≤ K := ⟨1000, Nat.le_refl _⟩
  refine ⟨K, ?_⟩
  unfold synodallaw8_ConfCounts.f
  rw [known_f _ (by omega)]
  simp only [Option.bind_some, if_true]
  by_cases h : (yes.length : Int) > 40
  · rw [if_pos h]
  · rw [if_neg h]
    obtain ⟨r, hr, hl⟩ := plain_f bits K (by omega)
    rw [hr]
    simp only [Option.bind_some]
    have := outer_l yes r (by omega) (by omega) r.length K 0 0 (by omega) (by omega) (by
      have : r.length * (yes.length + 3) ≤ 9 * 43 := Nat.mul_le_mul (by omega) (by omega)
      omega) (by omega) (by omega) (by simp)
    exact this
end Go.Proofs.Ytimeknpdgloenaa.Pure
