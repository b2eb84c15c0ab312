/- For every list that is turned as the law says conf.Check answers what the law wants: too many, a member that does not rise or that there is none of, none at all. -/
import Derived.Test.YtimeknpdgloenaaXConfChecksx2
namespace Go.Proofs.Ytimeknpdgloenaa.Pure
open Go.RowKit Go.Proofs.Ytimeknpdgloenaa.XConfChecks Go.Proofs.YtimeknpdgloenaaW.PrintWords Go.Proofs.YtimeknpdgloenaaW.PrintLast

namespace CC
theorem wrap_small {x : Int} (h0 : -1000000000000 ≤ x) (h : x ≤ 1000000000000) : wrap64 x = x := by
  unfold wrap64
  omega

theorem rd_at (l : List Int) (i : Nat) (h : i < l.length) : rd l (i : Int) = l[i] := by
  unfold rd
  simp [List.getD, h]

theorem index_l (l : List Int) (a : Int) (hl : l.length ≤ 1000000) (d : Nat) : ∀ (k i : Nat), i ≤ l.length → l.length - i = d → d < k →
    ∃ r, slices_Index_int_int.l0 k l a (l.length : Int) (i : Int) = some r ∧ (r ≥ 0 ↔ a ∈ l.drop i) := by
  induction d with
  | zero =>
    intro k i h1 h2 hk
    obtain ⟨k, rfl⟩ : ∃ m, k = m + 1 := ⟨k - 1, by omega⟩
    refine ⟨-1, ?_, ?_⟩
    · simp only [slices_Index_int_int.l0]; rw [if_neg (by omega)]
    · have : l.drop i = [] := List.drop_eq_nil_of_le (by omega)
      simp [this]
  | succ d ih =>
    intro k i h1 h2 hk
    obtain ⟨k, rfl⟩ : ∃ m, k = m + 1 := ⟨k - 1, by omega⟩
    have hlt : i < l.length := by omega
    have hd := List.drop_eq_getElem_cons hlt
    simp only [slices_Index_int_int.l0]
    rw [if_pos (by omega), if_pos (by omega), if_pos (by omega), rd_at l i hlt]
    by_cases e : a = l[i]
    · rw [if_pos e]
      exact ⟨_, rfl, by rw [hd]; simp [← e]⟩
    · rw [if_neg e, show wrap64 ((i : Int) + 1) = ((i + 1 : Nat) : Int) from by rw [wrap_small (by omega) (by omega)]; rfl]
      obtain ⟨r, hr, h⟩ := ih k (i + 1) (by omega) (by omega) (by omega)
      exact ⟨r, hr, by rw [h, hd, List.mem_cons]; exact ⟨Or.inr, fun h' => h'.resolve_left e⟩⟩

theorem contains_f (l : List Int) (a : Int) (hl : l.length ≤ 1000000) (k : Nat) (hk : l.length < k) :
    slices_Contains_int_int.f k l a = some (decide (a ∈ l)) := by
  obtain ⟨r, hr, h⟩ := index_l l a hl l.length k 0 (by omega) (by omega) hk
  unfold slices_Contains_int_int.f slices_Index_int_int.f
  rw [show (0 : Int) = ((0 : Nat) : Int) from rfl, hr]
  simp only [Option.bind_some]
  rw [List.drop_zero] at h
  congr 1
  exact decide_eq_decide.mpr h

/-- How many of l are among the votes. -/
def votes (yes l : List Int) : Nat := l.countP (fun x => decide (x ∈ yes))

theorem votes_drop (yes l : List Int) (i : Nat) (h : i < l.length) : votes yes (l.drop i) = (if l[i] ∈ yes then 1 else 0) + votes yes (l.drop (i + 1)) := by
  unfold votes
  rw [List.drop_eq_getElem_cons h, List.countP_cons]
  by_cases e : l[i] ∈ yes <;> simp [e]
  omega

theorem votes_le (yes l : List Int) : votes yes l ≤ l.length := List.countP_le_length

theorem half_l (l yes : List Int) (hl : l.length ≤ 1000000) (hy : yes.length ≤ 1000000) (d : Nat) : ∀ (k i : Nat) (n : Int), i ≤ l.length → l.length - i = d → d + yes.length + 1 < k → 0 ≤ n → n ≤ i →
    conf_half.l0 k l yes n l (l.length : Int) (i : Int) = some (decide (2 * (n + votes yes (l.drop i)) > (l.length : Int))) := by
  induction d with
  | zero =>
    intro k i n h1 h2 hk h3 h4
    obtain ⟨k, rfl⟩ : ∃ m, k = m + 1 := ⟨k - 1, by omega⟩
    have : l.drop i = [] := List.drop_eq_nil_of_le (by omega)
    simp only [conf_half.l0]; rw [if_neg (by omega), this, wrap_small (by omega) (by omega)]
    simp [votes]
  | succ d ih =>
    intro k i n h1 h2 hk h3 h4
    obtain ⟨k, rfl⟩ : ∃ m, k = m + 1 := ⟨k - 1, by omega⟩
    have hlt : i < l.length := by omega
    simp only [conf_half.l0]
    rw [if_pos (by omega), if_pos (by omega), if_pos (by omega), rd_at l i hlt, contains_f yes l[i] hy k (by omega)]
    simp only [Option.bind_some]
    rw [show wrap64 ((i : Int) + 1) = ((i + 1 : Nat) : Int) from by rw [wrap_small (by omega) (by omega)]; rfl, votes_drop yes l i hlt]
    by_cases e : l[i] ∈ yes
    · rw [if_pos (by simpa using e), if_pos e, wrap_small (by omega) (by omega), ih k (i + 1) (n + 1) (by omega) (by omega) (by omega) (by omega) (by omega)]
      congr 1
      exact decide_eq_decide.mpr (by omega)
    · rw [if_neg (by simpa using e), if_neg e, ih k (i + 1) n (by omega) (by omega) (by omega) (by omega) (by omega)]
      congr 1
      exact decide_eq_decide.mpr (by omega)

theorem half_f (l yes : List Int) (hl : l.length ≤ 1000000) (hy : yes.length ≤ 1000000) (k : Nat) (hk : l.length + yes.length + 1 < k) :
    conf_half.f k l yes = some (decide (2 * (votes yes l : Int) > (l.length : Int))) := by
  have h := half_l l yes hl hy l.length k 0 0 (by omega) (by omega) hk (by omega) (by omega)
  unfold conf_half.f
  rw [show (0 : Int) = ((0 : Nat) : Int) from rfl] at *
  rw [h, List.drop_zero]
  congr 1
  exact decide_eq_decide.mpr (by omega)

theorem quorum_f (old new yes : List Int) (ho : old.length ≤ 1000000) (hl : new.length ≤ 1000000) (hy : yes.length ≤ 1000000) (k : Nat) (hk : old.length + new.length + yes.length + 1 < k) :
    conf_Quorum.f k old new yes = some (decide (2 * (votes yes new : Int) > (new.length : Int)) && (decide (old = []) || decide (2 * (votes yes old : Int) > (old.length : Int)))) := by
  unfold conf_Quorum.f conf_Joint.f
  rw [half_f new yes hl hy k (by omega)]
  simp only [Option.bind_some]
  by_cases h : 2 * (votes yes new : Int) > (new.length : Int)
  · rw [if_pos (by simpa using h)]
    by_cases e : old = []
    · subst e; simp [h]
    · have : 0 < old.length := List.length_pos_iff.mpr e
      rw [if_pos (by simp; omega), half_f old yes ho hy k (by omega)]
      simp [e, h]
  · rw [if_neg (by simpa using h)]
    simp [h]

theorem known_f (k : Nat) (hk : 10 ≤ k) : synodallaw8_known.f k = some true := by
  unfold synodallaw8_known.f
  rw [quorum_f _ _ _ (by simp) (by simp) (by simp) k (by simp; omega), quorum_f _ _ _ (by simp) (by simp) (by simp) k (by simp; omega)]
  decide

theorem list_l (bits : Int) (d : Nat) : ∀ (k : Nat) (i : Int) (out : List Int), 0 ≤ i → i ≤ 9 → 9 - i = d → 2 * d + 1 < k → out.length ≤ 7 →
    ∃ r, synodallaw8_List.l0 k bits out i = some r ∧ r.length ≤ 7 := by
  induction d with
  | zero =>
    intro k i out h0 h1 hd hk ho
    obtain ⟨k, rfl⟩ : ∃ m, k = m + 2 := ⟨k - 2, by omega⟩
    refine ⟨out, ?_, by omega⟩
    simp only [synodallaw8_List.l0]; rw [if_neg (by omega)]; simp [synodallaw8_List.j1]
  | succ d ih =>
    intro k i out h0 h1 hd hk ho
    obtain ⟨k, rfl⟩ : ∃ m, k = m + 2 := ⟨k - 2, by omega⟩
    simp only [synodallaw8_List.l0]; rw [if_pos (by omega)]; simp only [synodallaw8_List.j1]
    rw [wrap_small (by omega) (by omega)]
    by_cases e : (out.length : Int) < 7
    · rw [if_pos (by simpa using e), if_pos h0]
      by_cases b : Go.bits .and .i64 (shr .i64 bits i) 1 = 1
      · rw [if_pos b, if_pos (by omega)]
        exact ih k (i + 1) _ (by omega) (by omega) (by omega) (by omega) (by simp; omega)
      · rw [if_neg b]
        exact ih k (i + 1) _ (by omega) (by omega) (by omega) (by omega) (by omega)
    · rw [if_neg (by simpa using e)]
      exact ⟨_, rfl, by omega⟩

theorem plain_f (bits : Int) (k : Nat) (hk : 20 ≤ k) : ∃ r, synodallaw8_Plain.f k bits = some ([], r) ∧ 1 ≤ r.length ∧ r.length ≤ 7 := by
  obtain ⟨r, hr, h⟩ := list_l bits 9 k 0 [] (by omega) (by omega) (by omega) (by omega) (by simp)
  unfold synodallaw8_Plain.f synodallaw8_List.f
  rw [hr]
  simp only [Option.bind_some]
  by_cases e : (r.length : Int) = 0
  · rw [if_pos e]; exact ⟨_, rfl, by simp, by simp⟩
  · rw [if_neg e]; exact ⟨_, rfl, by omega, h⟩

theorem within_f (a n : Int) (hn : 0 < n) (hn2 : n ≤ 1000) : ∃ r, synodallaw8_within.f a n = some r ∧ 0 ≤ r ∧ r < n := by
  have h1 := Int.tmod_lt_of_pos a hn
  have h2 := Int.lt_tmod_of_pos a hn
  unfold synodallaw8_within.f
  rw [if_neg (by omega)]
  by_cases h : Int.tmod a n < 0
  · rw [if_pos h, wrap_small (by omega) (by omega)]
    exact ⟨_, rfl, by omega, by omega⟩
  · rw [if_neg h]
    exact ⟨_, rfl, by omega, by omega⟩

/-- Members that rise, from behind b on, and that there are. -/
def rises : Int → List Int → Bool
  | _, [] => true
  | b, x :: l => decide (b < x) && decide (x < 9) && rises x l

/-- What is wrong with a list. -/
def code (l : List Int) : Int := if 7 < l.length then 1 else if rises (-1) l = false then 2 else if l = [] then 3 else 0

theorem conf_list_l (l : List Int) (hl : l.length ≤ 1000) (d : Nat) : ∀ (k i : Nat) (b : Int), i ≤ l.length → l.length - i = d → d < k →
    conf_list.l0 k l b l (l.length : Int) (i : Int) = some (if rises b (l.drop i) = false then 2 else if l = [] then 3 else 0) := by
  induction d with
  | zero =>
    intro k i b h1 h2 hk
    obtain ⟨k, rfl⟩ : ∃ m, k = m + 1 := ⟨k - 1, by omega⟩
    have : l.drop i = [] := List.drop_eq_nil_of_le (by omega)
    simp only [conf_list.l0]; rw [if_neg (by omega), this]
    have e0 : rises b [] = true := rfl
    rw [e0]
    by_cases e : l = []
    · rw [if_pos (by simp [e])]; simp [e]
    · have : 0 < l.length := List.length_pos_iff.mpr e
      rw [if_neg (by omega)]; simp [e]
  | succ d ih =>
    intro k i b h1 h2 hk
    obtain ⟨k, rfl⟩ : ∃ m, k = m + 1 := ⟨k - 1, by omega⟩
    have hlt : i < l.length := by omega
    simp only [conf_list.l0]
    rw [if_pos (by omega), if_pos (by omega), if_pos (by omega), rd_at l i hlt, List.drop_eq_getElem_cons hlt]
    by_cases h3 : l[i] ≤ b
    · rw [if_pos h3, if_pos (by simp [rises]; omega)]
    · rw [if_neg h3]
      by_cases h4 : l[i] ≥ 9
      · rw [if_pos h4, if_pos (by simp [rises]; omega)]
      · rw [if_neg h4, show wrap64 ((i : Int) + 1) = ((i + 1 : Nat) : Int) from by rw [wrap_small (by omega) (by omega)]; rfl, ih k (i + 1) l[i] (by omega) (by omega) (by omega)]
        have : rises b (l[i] :: l.drop (i + 1)) = rises l[i] (l.drop (i + 1)) := by
          have e1 : decide (b < l[i]) = true := by simp; omega
          have e2 : decide (l[i] < 9) = true := by simp; omega
          simp only [rises, e1, e2, Bool.true_and]
        rw [this]

theorem conf_list_f (l : List Int) (hl : l.length ≤ 1000) (k : Nat) (hk : l.length < k) : conf_list.f k l = some (code l) := by
  unfold conf_list.f code
  by_cases h : (l.length : Int) > 7
  · rw [if_pos h, if_pos (by omega)]
  · rw [if_neg h, if_neg (by omega)]
    have := conf_list_l l hl l.length k 0 (-1) (by omega) (by omega) hk
    rw [List.drop_zero] at this
    exact this

theorem code_cases (l : List Int) : code l = 0 ∨ code l = 1 ∨ code l = 2 ∨ code l = 3 := by
  unfold code
  split
  · simp
  · split
    · simp
    · split <;> simp

/-- What Check answers. -/
def chk (a b : List Int) : Int := if code a = 1 then 4 else if code a = 2 then 1 else if code b = 1 then 4 else if code b = 2 then 1 else if code b = 3 then 2 else 0

theorem check_f (a b : List Int) (ha : a.length ≤ 1000) (hb : b.length ≤ 1000) (k : Nat) (hk : a.length + b.length + 4 < k) : conf_Check.f k a b = some (chk a b) := by
  obtain ⟨k, rfl⟩ : ∃ m, k = m + 3 := ⟨k - 3, by omega⟩
  have e0 : rd_L1 [a, b] 0 = a := rfl
  have e1 : rd_L1 [a, b] 1 = b := rfl
  have w1 : wrap64 (0 + 1) = 1 := by rw [wrap_small (by omega) (by omega)]; rfl
  have w2 : wrap64 (1 + 1) = 2 := by rw [wrap_small (by omega) (by omega)]; rfl
  have s2 : conf_Check.l0 (k + 1) [a, b] 2 2 = some 0 := by
    simp only [conf_Check.l0]
    rw [if_neg (by decide)]
  have s1 : conf_Check.l0 (k + 2) [a, b] 2 1 = some (if code b = 1 then 4 else if code b = 2 then 1 else if code b = 3 then 2 else 0) := by
    rw [conf_Check.l0, if_pos (by decide), if_pos (by decide), if_pos (by simp), e1, conf_list_f b hb (k + 1) (by omega)]
    simp only [Option.bind_some, w2, s2]
    rcases code_cases b with h | h | h | h <;> simp [h]
  have s0 : conf_Check.l0 (k + 3) [a, b] 2 0 = some (chk a b) := by
    rw [conf_Check.l0, if_pos (by decide), if_pos (by decide), if_pos (by simp), e0, conf_list_f a ha (k + 2) (by omega)]
    simp only [Option.bind_some, w1, s1]
    unfold chk
    rcases code_cases a with h | h | h | h <;> simp [h]
  exact s0

theorem rises_dup (b : Int) (l : List Int) (h : l ≠ []) : rises b (l ++ [l.getLast h]) = false := by
  induction l generalizing b with
  | nil => exact absurd rfl h
  | cons x l ih =>
    cases l with
    | nil => simp [rises]
    | cons y l =>
      have := ih x (by simp)
      rw [List.getLast_cons (by simp), List.cons_append, rises, this]
      simp

theorem rises_high (b x : Int) (l : List Int) (h : 9 ≤ x) : rises b (l ++ [x]) = false := by
  induction l generalizing b with
  | nil => simp [rises]; omega
  | cons y l ih => rw [List.cons_append, rises, ih]; simp

theorem rises_set (l : List Int) (h : l ≠ []) (x : Int) (hx : x < 0) : rises (-1) (l.set 0 x) = false := by
  cases l with
  | nil => exact absurd rfl h
  | cons y l => simp [rises]; omega
end CC
open CC

/-- Where the list stands for what is wanted, all of the rest says yes. -/
theorem CC.rest (k : Nat) (old : Bool) (l : List Int) (want : Int) (hl : l.length ≤ 20) (hk : 100 ≤ k) (h : code l = 1 ∧ want = 4 ∨ code l = 2 ∧ want = 1 ∨ code l = 3 ∧ want = 2 ∧ l = []) :
    synodallaw8_ConfChecks.j1 (k + 1) old l want = some true := by
  simp only [synodallaw8_ConfChecks.j1, Option.bind_some]
  have e0 : code [0] = 0 := by decide
  have en : code [] = 3 := by decide
  rw [check_f l [0] (by omega) (by simp) k (by simp; omega), check_f [] l (by simp) (by omega) k (by simp; omega)]
  simp only [Option.bind_some, chk, en, e0]
  rcases h with ⟨h, rfl⟩ | ⟨h, rfl⟩ | ⟨h, rfl, rfl⟩
  · rw [h]; cases old <;> simp
  · rw [h]; cases old <;> simp
  · rw [h]; cases old <;> simp [conf_Joint.f]

theorem CC.rest0 (k : Nat) (old : Bool) (l : List Int) (want : Int) (hl : l.length ≤ 20) (hk : 101 ≤ k) (h : 7 < l.length ∨ l.length ≤ 7 ∧ (code l = 2 ∧ want = 1 ∨ code l = 3 ∧ want = 2 ∧ l = [])) :
    synodallaw8_ConfChecks.j0 (k + 1) old l want = some true := by
  obtain ⟨k, rfl⟩ : ∃ m, k = m + 1 := ⟨k - 1, by omega⟩
  simp only [synodallaw8_ConfChecks.j0]
  rcases h with h | ⟨h, h'⟩
  · have hc : code l = 1 := by unfold code; rw [if_pos h]
    rw [if_pos (by omega)]
    exact CC.rest k old l 4 hl (by omega) (.inl ⟨hc, rfl⟩)
  · rw [if_neg (by omega)]
    exact CC.rest k old l want hl (by omega) (.inr h')

theorem CC.code_two (l : List Int) (hl : l.length ≤ 7) (h : rises (-1) l = false) : code l = 2 := by
  unfold code
  rw [if_neg (by omega), if_pos h]

theorem ConfChecks : synodallaw8_ConfChecks.Pure := by
  intro bits how by_ old _ _ _
  obtain ⟨K, hK⟩ : ∃ K, 1000 ≤ K := ⟨1000, Nat.le_refl _⟩
  refine ⟨K + 1, ?_⟩
  unfold synodallaw8_ConfChecks.f
  obtain ⟨b, hb, hb0, hb1⟩ := within_f by_ 50 (by omega) (by omega)
  obtain ⟨l, hl, hl0, hl1⟩ := plain_f bits (K + 1) (by omega)
  obtain ⟨h, hh, hh0, hh1⟩ := within_f how 5 (by omega) (by omega)
  rw [known_f (K + 1) (by omega)]
  simp only [Option.bind_some, if_true]
  rw [hb]
  simp only [Option.bind_some]
  rw [hl]
  simp only [Option.bind_some, List.nil_append]
  rw [if_pos (by simp; omega), hh]
  simp only [Option.bind_some]
  have hne : l ≠ [] := by
    rintro rfl
    simp at hl0
  have hw : wrap64 ((l.length : Int) - 1) = ((l.length - 1 : Nat) : Int) := by rw [CC.wrap_small (by omega) (by omega)]; omega
  rw [hw]
  have hrd : rd l ((l.length - 1 : Nat) : Int) = l.getLast hne := by
    rw [rd_at l (l.length - 1) (by omega), List.getLast_eq_getElem]
  by_cases h0 : h = 0
  · rw [if_pos h0, if_pos (by omega), if_pos (by omega), if_pos (by omega), hrd]
    refine CC.rest0 K old _ 1 (by simp; omega) (by omega) ?_
    by_cases h7 : 7 < (l ++ [l.getLast hne]).length
    · exact .inl h7
    · exact .inr ⟨by omega, .inl ⟨CC.code_two _ (by omega) (rises_dup _ _ hne), rfl⟩⟩
  · rw [if_neg h0]
    by_cases h1 : h = 1
    · rw [if_pos h1, if_pos (by omega), if_pos (by omega), if_pos (by rw [List.length_take]; omega), CC.wrap_small (by omega) (by omega : 1 + b ≤ _), CC.wrap_small (by omega) (by omega)]
      refine CC.rest0 K old _ 1 (by rw [List.length_append, List.length_take]; simp; omega) (by omega) (.inr ⟨by rw [List.length_append, List.length_take]; simp; omega, .inl ⟨CC.code_two _ (by rw [List.length_append, List.length_take]; simp; omega) (rises_high _ _ _ (by omega)), rfl⟩⟩)
    · rw [if_neg h1]
      by_cases h2 : h = 2
      · rw [if_pos h2, if_pos (by omega), CC.wrap_small (by omega) (by omega : 1 + b ≤ _), CC.wrap_small (by omega) (by omega)]
        refine CC.rest0 K old _ 1 (by rw [List.length_set]; omega) (by omega) (.inr ⟨by rw [List.length_set]; omega, .inl ⟨CC.code_two _ (by rw [List.length_set]; omega) (rises_set _ hne _ (by omega)), rfl⟩⟩)
      · rw [if_neg h2]
        by_cases h3 : h = 3
        · rw [if_pos h3]
          exact CC.rest0 K old _ 4 (by simp) (by omega) (.inl (by simp))
        · rw [if_neg h3, if_pos (by omega)]
          exact CC.rest0 K old _ 2 (by simp) (by omega) (.inr ⟨by simp, .inr ⟨by decide, rfl, rfl⟩⟩)
end Go.Proofs.Ytimeknpdgloenaa.Pure
