/- What the meeting answers. -/
import Derived.Test.YtimeknpdgloenaaXConfMeetx4
namespace Go.Proofs.Ytimeknpdgloenaa.Pure
open Go.RowKit Go.Proofs.Ytimeknpdgloenaa.XConfMeet Go.Proofs.YtimeknpdgloenaaW.PrintWords Go.Proofs.YtimeknpdgloenaaW.PrintLast Go.Proofs.YtimeknpdgloenaaW.PrintMore

namespace CP
theorem wrap_small {x : Int} (h0 : -1000000000000 ≤ x) (h : x ≤ 1000000000000) : wrap64 x = x := by
  unfold wrap64
  omega
theorem wrap_next (i : Nat) (h : i ≤ 1000000) : wrap64 ((i : Int) + 1) = ((i + 1 : Nat) : Int) := by rw [wrap_small (by omega) (by omega)]; rfl

theorem rd_at (l : List Int) (i : Nat) (h : i < l.length) : rd l (i : Int) = l[i] := by
  unfold rd
  simp [List.getD, h]

theorem index_l (l : List Int) (a : Int) (hl : l.length ≤ 1000000) (d : Nat) : ∀ (k i : Nat), i ≤ l.length → l.length - i = d → d < k →
    ∃ r, slices_Index_int_int.l0 k l a (l.length : Int) (i : Int) = some r ∧ (r ≥ 0 ↔ a ∈ l.drop i) := by
  induction d with
  | zero =>
    intro k i h1 h2 hk
    obtain ⟨k, rfl⟩ : ∃ m, k = m + 1 := ⟨k - 1, by omega⟩
    refine ⟨-1, ?_, ?_⟩
    · simp only [slices_Index_int_int.l0]; rw [if_neg (by omega)]
    · have : l.drop i = [] := List.drop_eq_nil_of_le (by omega)
      simp [this]
  | succ d ih =>
    intro k i h1 h2 hk
    obtain ⟨k, rfl⟩ : ∃ m, k = m + 1 := ⟨k - 1, by omega⟩
    have hlt : i < l.length := by omega
    have hd := List.drop_eq_getElem_cons hlt
    simp only [slices_Index_int_int.l0]
    rw [if_pos (by omega), if_pos (by omega), if_pos (by omega), rd_at l i hlt]
    by_cases e : a = l[i]
    · rw [if_pos e]
      exact ⟨_, rfl, by rw [hd]; simp [← e]⟩
    · rw [if_neg e, wrap_next i (by omega)]
      obtain ⟨r, hr, h⟩ := ih k (i + 1) (by omega) (by omega) (by omega)
      exact ⟨r, hr, by rw [h, hd, List.mem_cons]; exact ⟨Or.inr, fun h' => h'.resolve_left e⟩⟩

theorem contains_f (l : List Int) (a : Int) (hl : l.length ≤ 1000000) (k : Nat) (hk : l.length < k) :
    slices_Contains_int_int.f k l a = some (decide (a ∈ l)) := by
  obtain ⟨r, hr, h⟩ := index_l l a hl l.length k 0 (by omega) (by omega) hk
  unfold slices_Contains_int_int.f slices_Index_int_int.f
  rw [show (0 : Int) = ((0 : Nat) : Int) from rfl, hr]
  simp only [Option.bind_some]
  rw [List.drop_zero] at h
  congr 1
  exact decide_eq_decide.mpr h

/-- How many of l are among the votes. -/
def votes (yes l : List Int) : Nat := l.countP (fun x => decide (x ∈ yes))

theorem votes_drop (yes l : List Int) (i : Nat) (h : i < l.length) : votes yes (l.drop i) = (if l[i] ∈ yes then 1 else 0) + votes yes (l.drop (i + 1)) := by
  unfold votes
  rw [List.drop_eq_getElem_cons h, List.countP_cons]
  by_cases e : l[i] ∈ yes <;> simp [e]
  omega

theorem votes_le (yes l : List Int) : votes yes l ≤ l.length := List.countP_le_length

theorem half_l (l yes : List Int) (hl : l.length ≤ 1000000) (hy : yes.length ≤ 1000000) (d : Nat) : ∀ (k i : Nat) (n : Int), i ≤ l.length → l.length - i = d → d + yes.length + 1 < k → 0 ≤ n → n ≤ i →
    conf_half.l0 k l yes n l (l.length : Int) (i : Int) = some (decide (2 * (n + votes yes (l.drop i)) > (l.length : Int))) := by
  induction d with
  | zero =>
    intro k i n h1 h2 hk h3 h4
    obtain ⟨k, rfl⟩ : ∃ m, k = m + 1 := ⟨k - 1, by omega⟩
    have : l.drop i = [] := List.drop_eq_nil_of_le (by omega)
    simp only [conf_half.l0]; rw [if_neg (by omega), this, wrap_small (by omega) (by omega)]
    simp [votes]
  | succ d ih =>
    intro k i n h1 h2 hk h3 h4
    obtain ⟨k, rfl⟩ : ∃ m, k = m + 1 := ⟨k - 1, by omega⟩
    have hlt : i < l.length := by omega
    simp only [conf_half.l0]
    rw [if_pos (by omega), if_pos (by omega), if_pos (by omega), rd_at l i hlt, contains_f yes l[i] hy k (by omega)]
    simp only [Option.bind_some]
    rw [wrap_next i (by omega), votes_drop yes l i hlt]
    by_cases e : l[i] ∈ yes
    · rw [if_pos (by simpa using e), if_pos e, wrap_small (by omega) (by omega), ih k (i + 1) (n + 1) (by omega) (by omega) (by omega) (by omega) (by omega)]
      congr 1
      exact decide_eq_decide.mpr (by omega)
    · rw [if_neg (by simpa using e), if_neg e, ih k (i + 1) n (by omega) (by omega) (by omega) (by omega) (by omega)]
      congr 1
      exact decide_eq_decide.mpr (by omega)

/-- More than half of l are among the votes. -/
def half (l yes : List Int) : Bool := decide (2 * (votes yes l : Int) > (l.length : Int))

theorem half_f (l yes : List Int) (hl : l.length ≤ 1000000) (hy : yes.length ≤ 1000000) (k : Nat) (hk : l.length + yes.length + 1 < k) :
    conf_half.f k l yes = some (half l yes) := by
  have h := half_l l yes hl hy l.length k 0 0 (by omega) (by omega) hk (by omega) (by omega)
  unfold conf_half.f half
  rw [show (0 : Int) = ((0 : Nat) : Int) from rfl] at *
  rw [h, List.drop_zero]
  congr 1
  exact decide_eq_decide.mpr (by omega)

/-- The votes are a quorum. -/
def quorum (old new yes : List Int) : Bool := half new yes && (decide (old = []) || half old yes)

theorem quorum_f (old new yes : List Int) (ho : old.length ≤ 1000000) (hl : new.length ≤ 1000000) (hy : yes.length ≤ 1000000) (k : Nat) (hk : old.length + new.length + yes.length + 1 < k) :
    conf_Quorum.f k old new yes = some (quorum old new yes) := by
  unfold conf_Quorum.f conf_Joint.f quorum
  rw [half_f new yes hl hy k (by omega)]
  simp only [Option.bind_some]
  cases h : half new yes
  · simp
  · rw [if_pos rfl]
    by_cases e : old = []
    · subst e; simp
    · have : 0 < old.length := List.length_pos_iff.mpr e
      rw [if_pos (by simp; omega), half_f old yes ho hy k (by omega)]
      simp [e]

theorem known_f (k : Nat) (hk : 10 ≤ k) : synodallaw8_known.f k = some true := by
  unfold synodallaw8_known.f
  rw [quorum_f _ _ _ (by simp) (by simp) (by simp) k (by simp; omega), quorum_f _ _ _ (by simp) (by simp) (by simp) k (by simp; omega)]
  decide

/-- Members that rise, from behind b on, and that there are. -/
def rises : Int → List Int → Bool
  | _, [] => true
  | b, x :: l => decide (b < x) && decide (x < 9) && rises x l

theorem rises_snoc (b x : Int) (l : List Int) (h : rises b l = true) (hb : b < x) (hx : x < 9) (hl : ∀ y ∈ l, y < x) : rises b (l ++ [x]) = true := by
  induction l generalizing b with
  | nil => simp [rises, hb, hx]
  | cons y l ih =>
    simp only [rises, Bool.and_eq_true, decide_eq_true_eq] at h
    simp only [List.cons_append, rises, Bool.and_eq_true, decide_eq_true_eq]
    exact ⟨h.1, ih y h.2 (hl y (by simp)) (fun z hz => hl z (by simp [hz]))⟩

theorem rises_mem (b : Int) (l : List Int) (h : rises b l = true) : ∀ x ∈ l, b < x ∧ x < 9 := by
  induction l generalizing b with
  | nil => simp
  | cons y l ih =>
    simp only [rises, Bool.and_eq_true, decide_eq_true_eq] at h
    intro x hx
    rcases List.mem_cons.1 hx with rfl | hx
    · exact h.1
    · have := ih y h.2 x hx
      omega

theorem rises_nodup (b : Int) (l : List Int) (h : rises b l = true) : l.Nodup := by
  induction l generalizing b with
  | nil => simp
  | cons y l ih =>
    simp only [rises, Bool.and_eq_true, decide_eq_true_eq] at h
    refine List.nodup_cons.2 ⟨fun hm => ?_, ih y h.2⟩
    have := rises_mem y l h.2 y hm
    omega

theorem list_l (bits : Int) (d : Nat) : ∀ (i : Int) (out : List Int), 0 ≤ i → i ≤ 9 → 9 - i = d → out.length ≤ 7 → rises (-1) out = true → (∀ x ∈ out, x < i) →
    ∃ r, (∀ k, 2 * d + 1 < k → synodallaw8_List.l0 k bits out i = some r) ∧ r.length ≤ 7 ∧ rises (-1) r = true := by
  induction d with
  | zero =>
    intro i out h0 h1 hd ho hr hm
    refine ⟨out, fun k hk => ?_, by omega, hr⟩
    obtain ⟨k, rfl⟩ : ∃ m, k = m + 2 := ⟨k - 2, by omega⟩
    simp only [synodallaw8_List.l0]; rw [if_neg (by omega)]; simp [synodallaw8_List.j1]
  | succ d ih =>
    intro i out h0 h1 hd ho hr hm
    by_cases e : (out.length : Int) < 7
    · by_cases b : Go.bits .and .i64 (shr .i64 bits i) 1 = 1
      · obtain ⟨r, h, hl⟩ := ih (i + 1) (out ++ [i]) (by omega) (by omega) (by omega) (by simp; omega) (rises_snoc _ _ _ hr (by omega) (by omega) hm) (by
          intro x hx
          rcases List.mem_append.1 hx with hx | hx
          · have := hm x hx; omega
          · simp at hx; omega)
        refine ⟨r, fun k hk => ?_, hl⟩
        obtain ⟨k, rfl⟩ : ∃ m, k = m + 2 := ⟨k - 2, by omega⟩
        simp only [synodallaw8_List.l0]; rw [if_pos (by omega)]; simp only [synodallaw8_List.j1]
        rw [wrap_small (by omega) (by omega), if_pos (by simpa using e), if_pos h0, if_pos b, if_pos (by omega)]
        exact h k (by omega)
      · obtain ⟨r, h, hl⟩ := ih (i + 1) out (by omega) (by omega) (by omega) ho hr (fun x hx => by have := hm x hx; omega)
        refine ⟨r, fun k hk => ?_, hl⟩
        obtain ⟨k, rfl⟩ : ∃ m, k = m + 2 := ⟨k - 2, by omega⟩
        simp only [synodallaw8_List.l0]; rw [if_pos (by omega)]; simp only [synodallaw8_List.j1]
        rw [wrap_small (by omega) (by omega), if_pos (by simpa using e), if_pos h0, if_neg b]
        exact h k (by omega)
    · refine ⟨out, fun k hk => ?_, ho, hr⟩
      obtain ⟨k, rfl⟩ : ∃ m, k = m + 2 := ⟨k - 2, by omega⟩
      simp only [synodallaw8_List.l0]; rw [if_pos (by omega)]; simp only [synodallaw8_List.j1]
      rw [if_neg (by simpa using e)]

theorem list_f (bits : Int) : ∃ r, (∀ k, 20 ≤ k → synodallaw8_List.f k bits = some r) ∧ r.length ≤ 7 ∧ rises (-1) r = true := by
  obtain ⟨r, h, hl, hr⟩ := list_l bits 9 0 [] (by omega) (by omega) (by omega) (by simp) rfl (by simp)
  exact ⟨r, fun k hk => h k (by omega), hl, hr⟩

theorem plain_f (bits : Int) : ∃ r, (∀ k, 20 ≤ k → synodallaw8_Plain.f k bits = some ([], r)) ∧ 1 ≤ r.length ∧ r.length ≤ 7 ∧ rises (-1) r = true := by
  obtain ⟨r, hr, h, hs⟩ := list_f bits
  by_cases e : (r.length : Int) = 0
  · refine ⟨[0], fun k hk => ?_, by simp, by simp, by decide⟩
    unfold synodallaw8_Plain.f
    rw [hr k hk]
    simp only [Option.bind_some]
    rw [if_pos e]
  · refine ⟨r, fun k hk => ?_, by omega, h, hs⟩
    unfold synodallaw8_Plain.f
    rw [hr k hk]
    simp only [Option.bind_some]
    rw [if_neg e]
end CP

namespace CP
/-- What is wrong with a list. -/
def code (l : List Int) : Int := if 7 < l.length then 1 else if rises (-1) l = false then 2 else if l = [] then 3 else 0

theorem conf_list_l (l : List Int) (hl : l.length ≤ 1000) (d : Nat) : ∀ (k i : Nat) (b : Int), i ≤ l.length → l.length - i = d → 2 * d + 1 < k →
    conf_list.l0 k l b l (l.length : Int) (i : Int) = some (if rises b (l.drop i) = false then 2 else if l = [] then 3 else 0) := by
  induction d with
  | zero =>
    intro k i b h1 h2 hk
    obtain ⟨k, rfl⟩ : ∃ m, k = m + 1 := ⟨k - 1, by omega⟩
    have : l.drop i = [] := List.drop_eq_nil_of_le (by omega)
    simp only [conf_list.l0]; rw [if_neg (by omega), this]
    have e0 : rises b [] = true := rfl
    rw [e0]
    by_cases e : l = []
    · rw [if_pos (by simp [e])]; simp [e]
    · have : 0 < l.length := List.length_pos_iff.mpr e
      rw [if_neg (by omega)]; simp [e]
  | succ d ih =>
    intro k i b h1 h2 hk
    obtain ⟨k, rfl⟩ : ∃ m, k = m + 2 := ⟨k - 2, by omega⟩
    have hlt : i < l.length := by omega
    simp only [conf_list.l0]
    rw [if_pos (by omega), if_pos (by omega), if_pos (by omega), rd_at l i hlt, List.drop_eq_getElem_cons hlt]
    by_cases h3 : l[i] ≤ b
    · rw [if_pos h3, if_pos (by simp [rises]; omega)]
      simp [conf_list.j1]
    · rw [if_neg h3]
      by_cases h4 : l[i] ≥ 9
      · rw [if_pos (by simp [rises]; omega)]
        simp [conf_list.j1, h4]
      · simp only [conf_list.j1]
        rw [if_neg (by simpa using h4), wrap_next i (by omega), ih k (i + 1) l[i] (by omega) (by omega) (by omega)]
        have : rises b (l[i] :: l.drop (i + 1)) = rises l[i] (l.drop (i + 1)) := by
          have e1 : decide (b < l[i]) = true := by simp; omega
          have e2 : decide (l[i] < 9) = true := by simp; omega
          simp only [rises, e1, e2, Bool.true_and]
        rw [this]

theorem conf_list_f (l : List Int) (hl : l.length ≤ 1000) (k : Nat) (hk : 2 * l.length + 1 < k) : conf_list.f k l = some (code l) := by
  unfold conf_list.f code
  by_cases h : (l.length : Int) > 7
  · rw [if_pos h, if_pos (by omega)]
  · rw [if_neg h, if_neg (by omega)]
    have := conf_list_l l hl l.length k 0 (-1) (by omega) (by omega) hk
    rw [List.drop_zero] at this
    exact this

theorem code_cases (l : List Int) : code l = 0 ∨ code l = 1 ∨ code l = 2 ∨ code l = 3 := by
  unfold code
  split
  · simp
  · split
    · simp
    · split <;> simp

/-- What Check answers. -/
def chk (a b : List Int) : Int := if code a = 1 then 4 else if code a = 2 then 1 else if code b = 1 then 4 else if code b = 2 then 1 else if code b = 3 then 2 else 0

theorem check_f (a b : List Int) (ha : a.length ≤ 1000) (hb : b.length ≤ 1000) (k : Nat) (hk : 2 * a.length + 2 * b.length + 5 < k) : conf_Check.f k a b = some (chk a b) := by
  obtain ⟨k, rfl⟩ : ∃ m, k = m + 3 := ⟨k - 3, by omega⟩
  have e0 : rd_L1 [a, b] 0 = a := rfl
  have e1 : rd_L1 [a, b] 1 = b := rfl
  have w1 : wrap64 (0 + 1) = 1 := by rw [wrap_small (by omega) (by omega)]; rfl
  have w2 : wrap64 (1 + 1) = 2 := by rw [wrap_small (by omega) (by omega)]; rfl
  have s2 : conf_Check.l0 (k + 1) [a, b] 2 2 = some 0 := by
    simp only [conf_Check.l0]
    rw [if_neg (by decide)]
  have s1 : conf_Check.l0 (k + 2) [a, b] 2 1 = some (if code b = 1 then 4 else if code b = 2 then 1 else if code b = 3 then 2 else 0) := by
    rw [conf_Check.l0, if_pos (by decide), if_pos (by decide), if_pos (by simp), e1, conf_list_f b hb (k + 1) (by omega)]
    simp only [Option.bind_some, w2, s2]
    rcases code_cases b with h | h | h | h <;> simp [h]
  have s0 : conf_Check.l0 (k + 3) [a, b] 2 0 = some (chk a b) := by
    rw [conf_Check.l0, if_pos (by decide), if_pos (by decide), if_pos (by simp), e0, conf_list_f a ha (k + 2) (by omega)]
    simp only [Option.bind_some, w1, s1]
    unfold chk
    rcases code_cases a with h | h | h | h <;> simp [h]
  exact s0

theorem code_nil : code [] = 3 := by decide
theorem chk_plain (l : List Int) : chk [] l = if 7 < l.length then 4 else if rises (-1) l = false then 1 else if l = [] then 2 else 0 := by
  unfold chk
  rw [code_nil]
  unfold code
  by_cases h : 7 < l.length
  · simp [h]
  · by_cases h2 : rises (-1) l = false
    · simp [h, h2]
    · by_cases h3 : l = []
      · subst h3; decide
      · simp [h, h2, h3]

theorem equal_l (a b : List Int) (h : a.length = b.length) (hl : a.length ≤ 1000000) (d : Nat) : ∀ (k i : Nat), i ≤ a.length → a.length - i = d → d < k →
    slices_Equal_int_int.l0 k a b (a.length : Int) (i : Int) = some (decide (a.drop i = b.drop i)) := by
  induction d with
  | zero =>
    intro k i h1 h2 hk
    obtain ⟨k, rfl⟩ : ∃ m, k = m + 1 := ⟨k - 1, by omega⟩
    have e1 : a.drop i = [] := List.drop_eq_nil_of_le (by omega)
    have e2 : b.drop i = [] := List.drop_eq_nil_of_le (by omega)
    simp only [slices_Equal_int_int.l0]; rw [if_neg (by omega), e1, e2]; simp
  | succ d ih =>
    intro k i h1 h2 hk
    obtain ⟨k, rfl⟩ : ∃ m, k = m + 1 := ⟨k - 1, by omega⟩
    have hlt : i < a.length := by omega
    have hlt2 : i < b.length := by omega
    simp only [slices_Equal_int_int.l0]
    rw [if_pos (by omega), if_pos (by omega), if_pos (by omega), if_pos (by omega), rd_at a i hlt, rd_at b i hlt2, List.drop_eq_getElem_cons hlt, List.drop_eq_getElem_cons hlt2]
    by_cases e : a[i] = b[i]
    · rw [if_pos e, wrap_next i (by omega), ih k (i + 1) (by omega) (by omega) (by omega)]
      simp only [List.cons.injEq, e, true_and]
    · rw [if_neg e]
      simp only [List.cons.injEq, e, false_and]
      rfl

theorem equal_f (a b : List Int) (hl : a.length ≤ 1000000) (k : Nat) (hk : a.length < k) : slices_Equal_int_int.f k a b = some (decide (a = b)) := by
  unfold slices_Equal_int_int.f
  by_cases h : (a.length : Int) = (b.length : Int)
  · rw [if_pos h]
    have := equal_l a b (by omega) hl a.length k 0 (by omega) (by omega) hk
    rw [List.drop_zero, List.drop_zero] at this
    exact this
  · rw [if_neg h]
    have : a ≠ b := by rintro rfl; exact h rfl
    simp [this]

theorem clone_f (l : List Int) (hl : l.length ≤ 1000000) : slices_Clone_int_int.f l = some l := by
  unfold slices_Clone_int_int.f
  rw [if_pos (by omega)]

/-- What is entered. -/
def enter (old new ts : List Int) : List Int × List Int × Int :=
  if old ≠ [] then ([], [], 15) else if ts = [] then ([], [], 2) else if chk [] ts ≠ 0 then ([], [], chk [] ts) else if ts = new then ([], [], 7) else (new, ts, 0)

theorem enter_f (old new ts : List Int) (hn : new.length ≤ 1000) (ht : ts.length ≤ 1000) (k : Nat) (hk : 2 * ts.length + 5 < k) : conf_Enter.f k old new ts = some (enter old new ts) := by
  unfold conf_Enter.f conf_Joint.f
  simp only [Option.bind_some]
  by_cases h : old = []
  · subst h
    rw [if_neg (by simp)]
    by_cases h2 : ts = []
    · subst h2
      rw [if_pos (by simp)]
      simp [enter]
    · have : 0 < ts.length := List.length_pos_iff.mpr h2
      rw [if_neg (by omega), check_f [] ts (by simp) ht k (by simp; omega)]
      simp only [Option.bind_some]
      by_cases h3 : chk [] ts = 0
      · rw [if_pos h3, equal_f ts new (by omega) k (by omega)]
        simp only [Option.bind_some]
        by_cases h4 : ts = new
        · rw [if_pos (by simpa using h4)]
          subst h4
          simp [enter, h2, h3]
        · rw [if_neg (by simpa using h4), clone_f new (by omega), clone_f ts (by omega)]
          simp [enter, h2, h3, h4]
      · rw [if_neg h3]
        simp [enter, h2, h3]
  · have : 0 < old.length := List.length_pos_iff.mpr h
    rw [if_pos (by simp; omega)]
    simp [enter, h]

/-- What is left for. -/
def leave (old new : List Int) : List Int × List Int × Int := if old = [] then ([], [], 2) else ([], new, 0)

theorem leave_f (old new : List Int) (hn : new.length ≤ 1000) : conf_Leave.f old new = some (leave old new) := by
  unfold conf_Leave.f conf_Joint.f leave
  simp only [Option.bind_some]
  by_cases h : old = []
  · rw [if_neg (by simp [h]), if_pos h]
  · have : 0 < old.length := List.length_pos_iff.mpr h
    rw [if_pos (by simp; omega), if_neg h, clone_f new (by omega)]
    rfl
end CP

namespace CP
theorem same_c (a b c d : List Int) (ha : a.length ≤ 1000000) (hb : b.length ≤ 1000000) (k : Nat) (hk : a.length + b.length < k) : conf_Same.f k a b c d = some (decide (a = c) && decide (b = d)) := by
  unfold conf_Same.f
  rw [equal_f a c ha k (by omega), equal_f b d hb k (by omega)]
  simp only [Option.bind_some]
  by_cases h : a = c <;> simp [h]

/-- A plain configuration's members. -/
def Good (l : List Int) : Prop := 1 ≤ l.length ∧ l.length ≤ 7 ∧ rises (-1) l = true

theorem chk_good (l : List Int) (h : Good l) : chk [] l = 0 := by
  obtain ⟨h0, h1, h2⟩ := h
  have h3 : l ≠ [] := by rintro rfl; simp at h0
  rw [chk_plain, if_neg (by omega), if_neg (by simp [h2]), if_neg h3]

theorem enter_good (c t : List Int) (h : Good t) : enter [] c t = if t = c then ([], [], 7) else (c, t, 0) := by
  have h3 : t ≠ [] := by rintro rfl; have := h.1; simp at this
  unfold enter
  rw [if_neg (by simp), if_neg h3, if_neg (by simp [chk_good t h])]
end CP

namespace CP
theorem all_l (bits : Int) (d : Nat) : ∀ (i : Int) (out : List Int), 0 ≤ i → i ≤ 9 → 9 - i = d → out.length ≤ 9 - d →
    ∃ r, (∀ k, d < k → synodallaw8_all.l0 k bits out i = some r) ∧ r.length ≤ 9 := by
  induction d with
  | zero =>
    intro i out h0 h1 hd ho
    refine ⟨out, fun k hk => ?_, by omega⟩
    obtain ⟨k, rfl⟩ : ∃ m, k = m + 1 := ⟨k - 1, by omega⟩
    simp only [synodallaw8_all.l0]; rw [if_neg (by omega)]
  | succ d ih =>
    intro i out h0 h1 hd ho
    by_cases b : Go.bits .and .i64 (shr .i64 bits i) 1 = 1
    · obtain ⟨r, h, hl⟩ := ih (i + 1) (out ++ [i]) (by omega) (by omega) (by omega) (by simp; omega)
      refine ⟨r, fun k hk => ?_, hl⟩
      obtain ⟨k, rfl⟩ : ∃ m, k = m + 1 := ⟨k - 1, by omega⟩
      simp only [synodallaw8_all.l0]
      rw [if_pos (by omega), if_pos h0, if_pos b, if_pos (by omega), wrap_small (by omega) (by omega)]
      exact h k (by omega)
    · obtain ⟨r, h, hl⟩ := ih (i + 1) out (by omega) (by omega) (by omega) (by omega)
      refine ⟨r, fun k hk => ?_, hl⟩
      obtain ⟨k, rfl⟩ : ∃ m, k = m + 1 := ⟨k - 1, by omega⟩
      simp only [synodallaw8_all.l0]
      rw [if_pos (by omega), if_pos h0, if_neg b, wrap_small (by omega) (by omega)]
      exact h k (by omega)

theorem all_f (bits : Int) : ∃ r, (∀ k, 20 ≤ k → synodallaw8_all.f k bits = some r) ∧ r.length ≤ 9 := by
  obtain ⟨r, h, hl⟩ := all_l bits 9 0 [] (by omega) (by omega) (by omega) (by simp)
  exact ⟨r, fun k hk => h k (by omega), hl⟩

/-- Votes that have none in common. -/
def Apart (x y : List Int) : Prop := ∀ v ∈ x, v ∉ y

theorem votes_apart (x y l : List Int) (h : Apart x y) : votes x l + votes y l ≤ l.length := by
  unfold votes
  induction l with
  | nil => simp
  | cons a l ih =>
    rw [List.countP_cons, List.countP_cons, List.length_cons]
    by_cases hx : a ∈ x
    · have hy := h a hx
      simp [hx, hy]; omega
    · by_cases hy : a ∈ y <;> simp [hx, hy] <;> omega

theorem half_apart (x y l : List Int) (h : Apart x y) : (half l x && half l y) = false := by
  have := votes_apart x y l h
  unfold half
  rw [← Bool.decide_and]
  exact decide_eq_false (by omega)

theorem meet_end (x y p t : List Int) (hx : x.length ≤ 9) (hy : y.length ≤ 9) (hp : Good p) (ht : Good t) (h : Apart x y) (k : Nat) (hk : 100 ≤ k) (i : Int) (hi : ¬ i < (x.length : Int)) :
    synodallaw8_ConfMeet.l0 (k + 1) x y false i [] p p t [] t = some true := by
  obtain ⟨hp0, hp1, _⟩ := hp
  obtain ⟨ht0, ht1, _⟩ := ht
  have hpn : p ≠ [] := by rintro rfl; simp at hp0
  have e1 := half_apart x y p h
  have e2 := half_apart x y t h
  simp only [synodallaw8_ConfMeet.l0]
  rw [if_neg hi, if_neg (by decide)]
  rw [quorum_f [] p x (by simp) (by omega) (by omega) k (by simp; omega), quorum_f [] p y (by simp) (by omega) (by omega) k (by simp; omega),
    quorum_f p t x (by omega) (by omega) (by omega) k (by omega), quorum_f p t y (by omega) (by omega) (by omega) k (by omega),
    quorum_f [] t x (by simp) (by omega) (by omega) k (by simp; omega), quorum_f [] t y (by simp) (by omega) (by omega) k (by simp; omega)]
  unfold quorum
  generalize half p x = px at *
  generalize half p y = py at *
  generalize half t x = tx at *
  generalize half t y = ty at *
  cases px <;> cases py <;> cases tx <;> cases ty <;> simp_all

theorem rd_mem (l : List Int) (v : Int) (h : v ∈ l) : ∃ i : Nat, ∃ h : i < l.length, l[i] = v := List.mem_iff_getElem.mp h

theorem meet_in (x y p t : List Int) (_hx : x.length ≤ 9) (hy : y.length ≤ 9) (i : Nat) (hi : i < x.length) (K : Nat)
    (hnext : ∀ k c, K ≤ k → (c = false → x[i] ∉ y) → synodallaw8_ConfMeet.l0 k x y c (wrap64 ((i : Int) + 1)) [] p p t [] t = some true) (d : Nat) :
    ∀ (k j : Nat) (c : Bool), j ≤ y.length → y.length - j = d → K + d < k → (c = false → x[i] ∉ y.take j) →
      synodallaw8_ConfMeet.l1 k x y c (i : Int) (j : Int) [] p p t [] t = some true := by
  induction d with
  | zero =>
    intro k j c h1 h2 hk hc
    obtain ⟨k, rfl⟩ : ∃ m, k = m + 1 := ⟨k - 1, by omega⟩
    simp only [synodallaw8_ConfMeet.l1]
    rw [if_neg (by omega)]
    have e : y.take j = y := List.take_of_length_le (by omega)
    rw [e] at hc
    exact hnext k c (by omega) hc
  | succ d ih =>
    intro k j c h1 h2 hk hc
    obtain ⟨k, rfl⟩ : ∃ m, k = m + 1 := ⟨k - 1, by omega⟩
    have hj : j < y.length := by omega
    simp only [synodallaw8_ConfMeet.l1]
    rw [if_pos (by omega), wrap_next j (by omega)]
    cases c
    · rw [if_neg (by decide), if_pos (by omega), if_pos (by omega), if_pos (by omega), rd_at x i hi, rd_at y j hj]
      refine ih k (j + 1) _ (by omega) (by omega) (by omega) (fun h => ?_)
      have hne : x[i] ≠ y[j] := by simpa using h
      rw [List.take_succ_eq_append_getElem hj]
      intro hm
      rcases List.mem_append.1 hm with hm | hm
      · exact hc rfl hm
      · simp at hm; exact hne hm
    · simp only [if_true]
      exact ih k (j + 1) true (by omega) (by omega) (by omega) (fun h => by simp at h)

theorem meet_l (x y p t : List Int) (hx : x.length ≤ 9) (hy : y.length ≤ 9) (hp : Good p) (ht : Good t) (d : Nat) :
    ∀ (k i : Nat) (c : Bool), i ≤ x.length → x.length - i = d → 200 * d + 200 ≤ k → (c = false → Apart (x.take i) y) →
      synodallaw8_ConfMeet.l0 k x y c (i : Int) [] p p t [] t = some true := by
  induction d with
  | zero =>
    intro k i c h1 h2 hk hc
    obtain ⟨k, rfl⟩ : ∃ m, k = m + 1 := ⟨k - 1, by omega⟩
    cases c
    · have e : x.take i = x := List.take_of_length_le (by omega)
      have hA := hc rfl
      rw [e] at hA
      exact meet_end x y p t hx hy hp ht hA k (by omega) (i : Int) (by omega)
    · simp only [synodallaw8_ConfMeet.l0]
      rw [if_neg (by omega)]
      simp only [if_true]
  | succ d ih =>
    intro k i c h1 h2 hk hc
    obtain ⟨k, rfl⟩ : ∃ m, k = m + 1 := ⟨k - 1, by omega⟩
    have hi : i < x.length := by omega
    rw [synodallaw8_ConfMeet.l0, if_pos (by omega)]
    cases c
    · refine meet_in x y p t hx hy i hi (200 * d + 200) (fun k' c' hk' hc' => ?_) y.length k 0 false (by omega) (by omega) (by omega) (fun _ => by simp)
      rw [wrap_next i (by omega)]
      refine ih k' (i + 1) c' (by omega) (by omega) hk' (fun h => ?_)
      rw [List.take_succ_eq_append_getElem hi]
      intro v hv
      rcases List.mem_append.1 hv with hv | hv
      · exact hc rfl v hv
      · simp at hv; subst hv; exact hc' h
    · have go : ∀ (d2 k2 j : Nat), j ≤ y.length → y.length - j = d2 → 200 * d + 200 + d2 < k2 → synodallaw8_ConfMeet.l1 k2 x y true (i : Int) (j : Int) [] p p t [] t = some true := by
        intro d2
        induction d2 with
        | zero =>
          intro k2 j g1 g2 g3
          obtain ⟨k2, rfl⟩ : ∃ m, k2 = m + 1 := ⟨k2 - 1, by omega⟩
          simp only [synodallaw8_ConfMeet.l1]
          rw [if_neg (by omega), wrap_next i (by omega)]
          exact ih k2 (i + 1) true (by omega) (by omega) (by omega) (fun h => by simp at h)
        | succ d2 ih2 =>
          intro k2 j g1 g2 g3
          obtain ⟨k2, rfl⟩ : ∃ m, k2 = m + 1 := ⟨k2 - 1, by omega⟩
          simp only [synodallaw8_ConfMeet.l1]
          rw [if_pos (by omega), wrap_next j (by omega)]
          simp only [if_true]
          exact ih2 k2 (j + 1) (by omega) (by omega) (by omega)
      exact go y.length k 0 (by omega) (by omega) (by omega)

theorem meet_f (a0 a1 a2 a3 : Int) : ∃ k, synodallaw8_ConfMeet.f k a0 a1 a2 a3 = some true := by
  obtain ⟨p, hp, hp0, hp1, hpr⟩ := plain_f a0
  obtain ⟨t, ht, ht0, ht1, htr⟩ := plain_f a1
  obtain ⟨x, hx, hxl⟩ := all_f a2
  obtain ⟨y, hy, hyl⟩ := all_f a3
  have hP : Good p := ⟨hp0, hp1, hpr⟩
  have hT : Good t := ⟨ht0, ht1, htr⟩
  have hpn : p ≠ [] := by rintro rfl; simp at hp0
  obtain ⟨K, hK⟩ : ∃ K, 10000 ≤ K := ⟨10000, Nat.le_refl _⟩
  refine ⟨K, ?_⟩
  unfold synodallaw8_ConfMeet.f
  rw [known_f K (by omega), hp K (by omega), ht K (by omega)]
  simp only [Option.bind_some, if_true]
  rw [enter_f [] p t (by omega) (by omega) K (by omega), enter_good p t hT]
  simp only [Option.bind_some]
  by_cases e : t = p
  · subst e
    rw [if_pos (show t = t from rfl)]
    simp only [if_true]
    rw [if_neg (by decide), same_c [] t [] t (by simp) (by omega) K (by simp; omega)]
    simp
  · rw [if_neg e]
    simp only [if_true]
    have e2 : leave p t = ([], t, 0) := by unfold leave; rw [if_neg hpn]
    rw [leave_f p t (by omega), e2]
    simp only [Option.bind_some, if_true]
    rw [same_c [] t [] t (by simp) (by omega) K (by simp; omega)]
    simp only [Option.bind_some]
    rw [if_pos (by simp), hx K (by omega), hy K (by omega)]
    simp only [Option.bind_some]
    exact meet_l x y p t hxl hyl hP hT x.length K 0 false (by omega) (by omega) (by omega) (fun _ => by intro v hv; simp at hv)
end CP
theorem ConfMeet_walk (a0 a1 a2 a3 : Int) (W : World) (_w0 : (Lit.int .i64 a0).wf = true) (_w1 : (Lit.int .i64 a1).wf = true) (_w2 : (Lit.int .i64 a2).wf = true) (_w3 : (Lit.int .i64 a3).wf = true) :
    Calls Try.prog 9 #[.int .i64 a0, .int .i64 a1, .int .i64 a2, .int .i64 a3] W fun e w' => e = .returned (.bool true) ∧ Below W.heap.size W w' := by
  obtain ⟨k, h⟩ := CP.meet_f a0 a1 a2 a3
  exact synodallaw8_ConfMeet.calls k a0 a1 a2 a3 true W h

end Go.Proofs.Ytimeknpdgloenaa.Pure
