/- Members, the plain law: what is entered, and left for, and what counts behind a log's entries. -/
import Derived.Test.YtbomomaidglegaaHistOff
import Derived.Test.YtbomomaidglegaaXHistm7
import Derived.Deep.LoopGhost
import Derived.WalkSpells
namespace Go.Proofs.Ytbomomaidglegaa.Hist
open Go Go.RowKit Go.Proofs.Ytbomomaidglegaa.XHist Go.Proofs.YtbomomaidglegaaW.PrintWords Go.Proofs.YtbomomaidglegaaW.PrintLast Go.Proofs.YtbomomaidglegaaW.PrintMore
set_option linter.unusedVariables false
set_option linter.unusedSimpArgs false

namespace CP
theorem wrap_small {x : Int} (h0 : -1000000000000 ≤ x) (h : x ≤ 1000000000000) : wrap64 x = x := by
  unfold wrap64
  omega
theorem wrap_next (i : Nat) (h : i ≤ 1000000) : wrap64 ((i : Int) + 1) = ((i + 1 : Nat) : Int) := by rw [wrap_small (by omega) (by omega)]; rfl

theorem rd_at (l : List Int) (i : Nat) (h : i < l.length) : rd l (i : Int) = l[i] := by
  unfold rd
  simp [List.getD, h]
end CP

namespace CP
/-- Members that rise, from behind b on, and that there are. -/
def rises : Int → List Int → Bool
  | _, [] => true
  | b, x :: l => decide (b < x) && decide (x < 9) && rises x l

theorem rises_snoc (b x : Int) (l : List Int) (h : rises b l = true) (hb : b < x) (hx : x < 9) (hl : ∀ y ∈ l, y < x) : rises b (l ++ [x]) = true := by
  induction l generalizing b with
  | nil => simp [rises, hb, hx]
  | cons y l ih =>
    simp only [rises, Bool.and_eq_true, decide_eq_true_eq] at h
    simp only [List.cons_append, rises, Bool.and_eq_true, decide_eq_true_eq]
    exact ⟨h.1, ih y h.2 (hl y (by simp)) (fun z hz => hl z (by simp [hz]))⟩

theorem rises_mem (b : Int) (l : List Int) (h : rises b l = true) : ∀ x ∈ l, b < x ∧ x < 9 := by
  induction l generalizing b with
  | nil => simp
  | cons y l ih =>
    simp only [rises, Bool.and_eq_true, decide_eq_true_eq] at h
    intro x hx
    rcases List.mem_cons.1 hx with rfl | hx
    · exact h.1
    · have := ih y h.2 x hx
      omega

theorem rises_nodup (b : Int) (l : List Int) (h : rises b l = true) : l.Nodup := by
  induction l generalizing b with
  | nil => simp
  | cons y l ih =>
    simp only [rises, Bool.and_eq_true, decide_eq_true_eq] at h
    refine List.nodup_cons.2 ⟨fun hm => ?_, ih y h.2⟩
    have := rises_mem y l h.2 y hm
    omega

theorem list_l (bits : Int) (d : Nat) : ∀ (i : Int) (out : List Int), 0 ≤ i → i ≤ 9 → 9 - i = d → out.length ≤ 7 → rises (-1) out = true → (∀ x ∈ out, x < i) →
    ∃ r, (∀ k, 2 * d + 1 < k → synodallaw8_List.l0 k bits out i = some r) ∧ r.length ≤ 7 ∧ rises (-1) r = true := by
  induction d with
  | zero =>
    intro i out h0 h1 hd ho hr hm
    refine ⟨out, fun k hk => ?_, by omega, hr⟩
    obtain ⟨k, rfl⟩ : ∃ m, k = m + 2 := ⟨k - 2, by omega⟩
    simp only [synodallaw8_List.l0]; rw [if_neg (by omega)]; simp [synodallaw8_List.j1]
  | succ d ih =>
    intro i out h0 h1 hd ho hr hm
    by_cases e : (out.length : Int) < 7
    · by_cases b : Go.bits .and .i64 (shr .i64 bits i) 1 = 1
      · obtain ⟨r, h, hl⟩ := ih (i + 1) (out ++ [i]) (by omega) (by omega) (by omega) (by simp; omega) (rises_snoc _ _ _ hr (by omega) (by omega) hm) (by
          intro x hx
          rcases List.mem_append.1 hx with hx | hx
          · have := hm x hx; omega
          · simp at hx; omega)
        refine ⟨r, fun k hk => ?_, hl⟩
        obtain ⟨k, rfl⟩ : ∃ m, k = m + 2 := ⟨k - 2, by omega⟩
        simp only [synodallaw8_List.l0]; rw [if_pos (by omega)]; simp only [synodallaw8_List.j1]
        rw [CP.wrap_small (by omega) (by omega), if_pos (by simpa using e), if_pos h0, if_pos b, if_pos (by omega)]
        exact h k (by omega)
      · obtain ⟨r, h, hl⟩ := ih (i + 1) out (by omega) (by omega) (by omega) ho hr (fun x hx => by have := hm x hx; omega)
        refine ⟨r, fun k hk => ?_, hl⟩
        obtain ⟨k, rfl⟩ : ∃ m, k = m + 2 := ⟨k - 2, by omega⟩
        simp only [synodallaw8_List.l0]; rw [if_pos (by omega)]; simp only [synodallaw8_List.j1]
        rw [CP.wrap_small (by omega) (by omega), if_pos (by simpa using e), if_pos h0, if_neg b]
        exact h k (by omega)
    · refine ⟨out, fun k hk => ?_, ho, hr⟩
      obtain ⟨k, rfl⟩ : ∃ m, k = m + 2 := ⟨k - 2, by omega⟩
      simp only [synodallaw8_List.l0]; rw [if_pos (by omega)]; simp only [synodallaw8_List.j1]
      rw [if_neg (by simpa using e)]

theorem list_f (bits : Int) : ∃ r, (∀ k, 20 ≤ k → synodallaw8_List.f k bits = some r) ∧ r.length ≤ 7 ∧ rises (-1) r = true := by
  obtain ⟨r, h, hl, hr⟩ := list_l bits 9 0 [] (by omega) (by omega) (by omega) (by simp) rfl (by simp)
  exact ⟨r, fun k hk => h k (by omega), hl, hr⟩

theorem plain_f (bits : Int) : ∃ r, (∀ k, 20 ≤ k → synodallaw8_Plain.f k bits = some ([], r)) ∧ 1 ≤ r.length ∧ r.length ≤ 7 ∧ rises (-1) r = true := by
  obtain ⟨r, hr, h, hs⟩ := list_f bits
  by_cases e : (r.length : Int) = 0
  · refine ⟨[0], fun k hk => ?_, by simp, by simp, by decide⟩
    unfold synodallaw8_Plain.f
    rw [hr k hk]
    simp only [Option.bind_some]
    rw [if_pos e]
  · refine ⟨r, fun k hk => ?_, by omega, h, hs⟩
    unfold synodallaw8_Plain.f
    rw [hr k hk]
    simp only [Option.bind_some]
    rw [if_neg e]
end CP

namespace CP
/-- What is wrong with a list. -/
def code (l : List Int) : Int := if 7 < l.length then 1 else if rises (-1) l = false then 2 else if l = [] then 3 else 0

theorem conf_list_l (l : List Int) (hl : l.length ≤ 1000) (d : Nat) : ∀ (k i : Nat) (b : Int), i ≤ l.length → l.length - i = d → 2 * d + 1 < k →
    conf_list.l0 k l b l (l.length : Int) (i : Int) = some (if rises b (l.drop i) = false then 2 else if l = [] then 3 else 0) := by
  induction d with
  | zero =>
    intro k i b h1 h2 hk
    obtain ⟨k, rfl⟩ : ∃ m, k = m + 1 := ⟨k - 1, by omega⟩
    have : l.drop i = [] := List.drop_eq_nil_of_le (by omega)
    simp only [conf_list.l0]; rw [if_neg (by omega), this]
    have e0 : rises b [] = true := rfl
    rw [e0]
    by_cases e : l = []
    · rw [if_pos (by simp [e])]; simp [e]
    · have : 0 < l.length := List.length_pos_iff.mpr e
      rw [if_neg (by omega)]; simp [e]
  | succ d ih =>
    intro k i b h1 h2 hk
    obtain ⟨k, rfl⟩ : ∃ m, k = m + 2 := ⟨k - 2, by omega⟩
    have hlt : i < l.length := by omega
    simp only [conf_list.l0]
    rw [if_pos (by omega), if_pos (by omega), if_pos (by omega), rd_at l i hlt, List.drop_eq_getElem_cons hlt]
    by_cases h3 : l[i] ≤ b
    · rw [if_pos h3, if_pos (by simp [rises]; omega)]
      simp [conf_list.j1]
    · rw [if_neg h3]
      by_cases h4 : l[i] ≥ 9
      · rw [if_pos (by simp [rises]; omega)]
        simp [conf_list.j1, h4]
      · simp only [conf_list.j1]
        rw [if_neg (by simpa using h4), wrap_next i (by omega), ih k (i + 1) l[i] (by omega) (by omega) (by omega)]
        have : rises b (l[i] :: l.drop (i + 1)) = rises l[i] (l.drop (i + 1)) := by
          have e1 : decide (b < l[i]) = true := by simp; omega
          have e2 : decide (l[i] < 9) = true := by simp; omega
          simp only [rises, e1, e2, Bool.true_and]
        rw [this]

theorem conf_list_f (l : List Int) (hl : l.length ≤ 1000) (k : Nat) (hk : 2 * l.length + 1 < k) : conf_list.f k l = some (code l) := by
  unfold conf_list.f code
  by_cases h : (l.length : Int) > 7
  · rw [if_pos h, if_pos (by omega)]
  · rw [if_neg h, if_neg (by omega)]
    have := conf_list_l l hl l.length k 0 (-1) (by omega) (by omega) hk
    rw [List.drop_zero] at this
    exact this

theorem code_cases (l : List Int) : code l = 0 ∨ code l = 1 ∨ code l = 2 ∨ code l = 3 := by
  unfold code
  split
  · simp
  · split
    · simp
    · split <;> simp

/-- What Check answers. -/
def chk (a b : List Int) : Int := if code a = 1 then 4 else if code a = 2 then 1 else if code b = 1 then 4 else if code b = 2 then 1 else if code b = 3 then 2 else 0

theorem check_f (a b : List Int) (ha : a.length ≤ 1000) (hb : b.length ≤ 1000) (k : Nat) (hk : 2 * a.length + 2 * b.length + 5 < k) : conf_Check.f k a b = some (chk a b) := by
  obtain ⟨k, rfl⟩ : ∃ m, k = m + 3 := ⟨k - 3, by omega⟩
  have e0 : rd_L2 [a, b] 0 = a := rfl
  have e1 : rd_L2 [a, b] 1 = b := rfl
  have w1 : wrap64 (0 + 1) = 1 := by rw [wrap_small (by omega) (by omega)]; rfl
  have w2 : wrap64 (1 + 1) = 2 := by rw [wrap_small (by omega) (by omega)]; rfl
  have s2 : conf_Check.l0 (k + 1) [a, b] 2 2 = some 0 := by
    simp only [conf_Check.l0]
    rw [if_neg (by decide)]
  have s1 : conf_Check.l0 (k + 2) [a, b] 2 1 = some (if code b = 1 then 4 else if code b = 2 then 1 else if code b = 3 then 2 else 0) := by
    rw [conf_Check.l0, if_pos (by decide), if_pos (by decide), if_pos (by simp), e1, conf_list_f b hb (k + 1) (by omega)]
    simp only [Option.bind_some, w2, s2]
    rcases code_cases b with h | h | h | h <;> simp [h]
  have s0 : conf_Check.l0 (k + 3) [a, b] 2 0 = some (chk a b) := by
    rw [conf_Check.l0, if_pos (by decide), if_pos (by decide), if_pos (by simp), e0, conf_list_f a ha (k + 2) (by omega)]
    simp only [Option.bind_some, w1, s1]
    unfold chk
    rcases code_cases a with h | h | h | h <;> simp [h]
  exact s0

theorem code_nil : code [] = 3 := by decide
theorem chk_plain (l : List Int) : chk [] l = if 7 < l.length then 4 else if rises (-1) l = false then 1 else if l = [] then 2 else 0 := by
  unfold chk
  rw [code_nil]
  unfold code
  by_cases h : 7 < l.length
  · simp [h]
  · by_cases h2 : rises (-1) l = false
    · simp [h, h2]
    · by_cases h3 : l = []
      · subst h3; decide
      · simp [h, h2, h3]

theorem equal_l (a b : List Int) (h : a.length = b.length) (hl : a.length ≤ 1000000) (d : Nat) : ∀ (k i : Nat), i ≤ a.length → a.length - i = d → d < k →
    slices_Equal_int_int.l0 k a b (a.length : Int) (i : Int) = some (decide (a.drop i = b.drop i)) := by
  induction d with
  | zero =>
    intro k i h1 h2 hk
    obtain ⟨k, rfl⟩ : ∃ m, k = m + 1 := ⟨k - 1, by omega⟩
    have e1 : a.drop i = [] := List.drop_eq_nil_of_le (by omega)
    have e2 : b.drop i = [] := List.drop_eq_nil_of_le (by omega)
    simp only [slices_Equal_int_int.l0]; rw [if_neg (by omega), e1, e2]; simp
  | succ d ih =>
    intro k i h1 h2 hk
    obtain ⟨k, rfl⟩ : ∃ m, k = m + 1 := ⟨k - 1, by omega⟩
    have hlt : i < a.length := by omega
    have hlt2 : i < b.length := by omega
    simp only [slices_Equal_int_int.l0]
    rw [if_pos (by omega), if_pos (by omega), if_pos (by omega), if_pos (by omega), rd_at a i hlt, rd_at b i hlt2, List.drop_eq_getElem_cons hlt, List.drop_eq_getElem_cons hlt2]
    by_cases e : a[i] = b[i]
    · rw [if_pos e, wrap_next i (by omega), ih k (i + 1) (by omega) (by omega) (by omega)]
      simp only [List.cons.injEq, e, true_and]
    · rw [if_neg e]
      simp only [List.cons.injEq, e, false_and]
      rfl

theorem equal_f (a b : List Int) (hl : a.length ≤ 1000000) (k : Nat) (hk : a.length < k) : slices_Equal_int_int.f k a b = some (decide (a = b)) := by
  unfold slices_Equal_int_int.f
  by_cases h : (a.length : Int) = (b.length : Int)
  · rw [if_pos h]
    have := equal_l a b (by omega) hl a.length k 0 (by omega) (by omega) hk
    rw [List.drop_zero, List.drop_zero] at this
    exact this
  · rw [if_neg h]
    have : a ≠ b := by rintro rfl; exact h rfl
    simp [this]

theorem clone_f (l : List Int) (hl : l.length ≤ 1000000) : slices_Clone_int_int.f l = some l := by
  unfold slices_Clone_int_int.f
  rw [if_pos (by omega)]

/-- What is entered. -/
def enter (old new ts : List Int) : List Int × List Int × Int :=
  if old ≠ [] then ([], [], 15) else if ts = [] then ([], [], 2) else if chk [] ts ≠ 0 then ([], [], chk [] ts) else if ts = new then ([], [], 7) else (new, ts, 0)

theorem enter_f (old new ts : List Int) (hn : new.length ≤ 1000) (ht : ts.length ≤ 1000) (k : Nat) (hk : 2 * ts.length + 5 < k) : conf_Enter.f k old new ts = some (enter old new ts) := by
  unfold conf_Enter.f conf_Joint.f
  simp only [Option.bind_some]
  by_cases h : old = []
  · subst h
    rw [if_neg (by simp)]
    by_cases h2 : ts = []
    · subst h2
      rw [if_pos (by simp)]
      simp [enter]
    · have : 0 < ts.length := List.length_pos_iff.mpr h2
      rw [if_neg (by omega), check_f [] ts (by simp) ht k (by simp; omega)]
      simp only [Option.bind_some]
      by_cases h3 : chk [] ts = 0
      · rw [if_pos h3, equal_f ts new (by omega) k (by omega)]
        simp only [Option.bind_some]
        by_cases h4 : ts = new
        · rw [if_pos (by simpa using h4)]
          subst h4
          simp [enter, h2, h3]
        · rw [if_neg (by simpa using h4), clone_f new (by omega), clone_f ts (by omega)]
          simp [enter, h2, h3, h4]
      · rw [if_neg h3]
        simp [enter, h2, h3]
  · have : 0 < old.length := List.length_pos_iff.mpr h
    rw [if_pos (by simp; omega)]
    simp [enter, h]

/-- What is left for. -/
def leave (old new : List Int) : List Int × List Int × Int := if old = [] then ([], [], 2) else ([], new, 0)

theorem leave_f (old new : List Int) (hn : new.length ≤ 1000) : conf_Leave.f old new = some (leave old new) := by
  unfold conf_Leave.f conf_Joint.f leave
  simp only [Option.bind_some]
  by_cases h : old = []
  · rw [if_neg (by simp [h]), if_pos h]
  · have : 0 < old.length := List.length_pos_iff.mpr h
    rw [if_pos (by simp; omega), if_neg h, clone_f new (by omega)]
    rfl
end CP

namespace CP
theorem one_l (l : List Int) (hl : l.length ≤ 1000) (d : Nat) : ∀ (k i : Nat) (b : Int), i ≤ l.length → l.length - i = d → 2 * d + 1 < k → (i = 0 ∧ b = -1 ∨ ∃ (_h : 0 < i) (_h2 : i - 1 < l.length), b = l[i - 1] ∧ 0 ≤ b) →
    synodalref8_one.l0 k l (i : Int) = some (if rises b (l.drop i) = false then 1 else 0) := by
  induction d with
  | zero =>
    intro k i b h1 h2 hk hb
    obtain ⟨k, rfl⟩ : ∃ m, k = m + 1 := ⟨k - 1, by omega⟩
    have : l.drop i = [] := List.drop_eq_nil_of_le (by omega)
    simp only [synodalref8_one.l0]; rw [if_neg (by omega), this]
    simp [rises]
  | succ d ih =>
    intro k i b h1 h2 hk hb
    obtain ⟨k, rfl⟩ : ∃ m, k = m + 2 := ⟨k - 2, by omega⟩
    have hlt : i < l.length := by omega
    have q2 : l.length - (i + 1) = d := by clear hb; omega
    have q3 : 2 * d + 1 < k + 1 := by clear hb; omega
    simp only [synodalref8_one.l0]
    rw [if_pos (by clear hb; omega), if_pos (by clear hb; omega), rd_at l i hlt, List.drop_eq_getElem_cons hlt]
    by_cases h3 : l[i] < 0
    · rw [if_pos h3, if_pos (by
        simp only [rises]
        rcases hb with ⟨rfl, rfl⟩ | ⟨_, _, rfl, _⟩ <;> simp <;> omega)]
      simp [synodalref8_one.j1]
    · rw [if_neg h3]
      by_cases h4 : l[i] ≥ 9
      · rw [if_pos h4, if_pos (by simp [rises]; omega)]
        simp [synodalref8_one.j1]
      · rw [if_neg h4]
        have go : ∀ (c : Bool), (c = true ↔ l[i] ≤ b) → synodalref8_one.j1 (k + 1) l (i : Int) c = some (if rises b (l[i] :: l.drop (i + 1)) = false then 1 else 0) := by
          intro c hc
          simp only [synodalref8_one.j1]
          by_cases h5 : l[i] ≤ b
          · rw [if_pos (hc.2 h5), if_pos (by simp [rises]; omega)]
          · rw [if_neg (fun h => h5 (hc.1 h)), wrap_next i (by omega), ih k (i + 1) l[i] hlt q2 (by clear hb; omega) (.inr ⟨Nat.succ_pos i, hlt, rfl, by clear hb; omega⟩)]
            have : rises b (l[i] :: l.drop (i + 1)) = rises l[i] (l.drop (i + 1)) := by
              have e1 : decide (b < l[i]) = true := by simp; omega
              have e2 : decide (l[i] < 9) = true := by simp; omega
              simp only [rises, e1, e2, Bool.true_and]
            rw [this]
        rcases hb with ⟨rfl, rfl⟩ | ⟨hi, h2, hbb, hb0⟩
        · rw [if_neg (by omega)]
          exact go false (by simp; omega)
        · have hw : wrap64 ((i : Int) - 1) = ((i - 1 : Nat) : Int) := by rw [wrap_small (by omega) (by omega)]; omega
          rw [if_pos (by omega), hw, if_pos (by omega), if_pos (by omega), rd_at l (i - 1) h2, ← hbb]
          exact go _ (by simp)

theorem one_f (l : List Int) (hl : l.length ≤ 1000) (k : Nat) (hk : 2 * l.length + 1 < k) : synodalref8_one.f k l = some (if 7 < l.length then 4 else if rises (-1) l = false then 1 else 0) := by
  unfold synodalref8_one.f
  by_cases h : (l.length : Int) > 7
  · rw [if_pos h, if_pos (by omega)]
  · rw [if_neg h, if_neg (by omega)]
    have := one_l l hl l.length k 0 (-1) (by omega) (by omega) hk (.inl ⟨rfl, rfl⟩)
    rw [List.drop_zero] at this
    exact this

theorem rcheck_f (l : List Int) (hl : l.length ≤ 1000) (k : Nat) (hk : 2 * l.length + 5 < k) : synodalref8_Check.f k [] l = some (chk [] l) := by
  unfold synodalref8_Check.f
  rw [one_f [] (by simp) k (by simp; omega), one_f l hl k (by omega), chk_plain]
  by_cases h : 7 < l.length
  · simp [h, rises]
  · by_cases h2 : rises (-1) l = false
    · simp [h, h2, rises]
    · by_cases h3 : l = []
      · simp [h3, rises]
      · simp [h, h2, h3, rises]

theorem same_l (a b : List Int) (h : a.length = b.length) (hl : a.length ≤ 1000000) (d : Nat) : ∀ (k i : Nat), i ≤ a.length → a.length - i = d → d < k →
    synodalref8_same.l0 k a b (i : Int) = some (decide (a.drop i = b.drop i)) := by
  induction d with
  | zero =>
    intro k i h1 h2 hk
    obtain ⟨k, rfl⟩ : ∃ m, k = m + 1 := ⟨k - 1, by omega⟩
    have e1 : a.drop i = [] := List.drop_eq_nil_of_le (by omega)
    have e2 : b.drop i = [] := List.drop_eq_nil_of_le (by omega)
    simp only [synodalref8_same.l0]; rw [if_neg (by omega), e1, e2]; simp
  | succ d ih =>
    intro k i h1 h2 hk
    obtain ⟨k, rfl⟩ : ∃ m, k = m + 1 := ⟨k - 1, by omega⟩
    have hlt : i < a.length := by omega
    have hlt2 : i < b.length := by omega
    simp only [synodalref8_same.l0]
    rw [if_pos (by omega), if_pos (by omega), if_pos (by omega), rd_at a i hlt, rd_at b i hlt2, List.drop_eq_getElem_cons hlt, List.drop_eq_getElem_cons hlt2]
    by_cases e : a[i] = b[i]
    · rw [if_pos e, wrap_next i (by omega), ih k (i + 1) (by omega) (by omega) (by omega)]
      simp only [List.cons.injEq, e, true_and]
    · rw [if_neg e]
      simp only [List.cons.injEq, e, false_and]
      rfl

theorem same_f (a b : List Int) (hl : a.length ≤ 1000000) (k : Nat) (hk : a.length < k) : synodalref8_same.f k a b = some (decide (a = b)) := by
  unfold synodalref8_same.f
  by_cases h : (a.length : Int) = (b.length : Int)
  · rw [if_pos h]
    have := same_l a b (by omega) hl a.length k 0 (by omega) (by omega) hk
    rw [List.drop_zero, List.drop_zero] at this
    exact this
  · rw [if_neg h]
    have : a ≠ b := by rintro rfl; exact h rfl
    simp [this]

theorem rSame_f (a b : List Int) (ha : a.length ≤ 1000000) (hb : b.length ≤ 1000000) (k : Nat) (hk : a.length + b.length < k) : synodalref8_Same.f k a b a b = some true := by
  unfold synodalref8_Same.f
  rw [same_f a a ha k (by omega), same_f b b hb k (by omega)]
  simp

theorem renter_f (old new ts : List Int) (hn : new.length ≤ 1000) (ht : ts.length ≤ 1000) (k : Nat) (hk : 2 * ts.length + new.length + 5 < k) : synodalref8_Enter.f k old new ts = some (enter old new ts) := by
  unfold synodalref8_Enter.f synodalref8_Joint.f
  simp only [Option.bind_some]
  by_cases h : old = []
  · subst h
    rw [if_neg (by simp)]
    by_cases h2 : ts = []
    · subst h2
      rw [if_pos (by simp)]
      simp [enter]
    · have : 0 < ts.length := List.length_pos_iff.mpr h2
      rw [if_neg (by omega), rcheck_f ts ht k (by omega)]
      simp only [Option.bind_some]
      by_cases h3 : chk [] ts = 0
      · rw [if_pos h3, same_f new ts (by omega) k (by omega)]
        simp only [Option.bind_some]
        by_cases h4 : new = ts
        · rw [if_pos (by simp [h4])]
          simp [enter, h2, h3, h4]
        · have h5 : ¬ ts = new := fun h => h4 h.symm
          rw [if_neg (by simpa using h4), if_pos (by simp; omega), if_pos (by simp; omega)]
          simp [enter, h2, h3, h5]
      · rw [if_neg h3]
        simp [enter, h2, h3]
  · have : 0 < old.length := List.length_pos_iff.mpr h
    rw [if_pos (by simp; omega)]
    simp [enter, h]

theorem rleave_f (old new : List Int) (hn : new.length ≤ 1000) : synodalref8_Leave.f old new = some (leave old new) := by
  unfold synodalref8_Leave.f synodalref8_Joint.f leave
  simp only [Option.bind_some]
  by_cases h : old = []
  · rw [if_neg (by simp [h]), if_pos h]
  · have : 0 < old.length := List.length_pos_iff.mpr h
    rw [if_pos (by simp; omega), if_neg h, if_pos (by simp; omega)]
    rfl

theorem enter_le (old new ts : List Int) (hn : new.length ≤ 1000) (ht : ts.length ≤ 1000) : (enter old new ts).1.length ≤ 1000 ∧ (enter old new ts).2.1.length ≤ 1000 := by
  unfold enter
  split
  · simp
  · split
    · simp
    · split
      · simp
      · split
        · simp
        · exact ⟨hn, ht⟩

end CP

namespace CP
theorem enter_le7 (old new ts : List Int) (hn : new.length ≤ 1000) (ht : ts.length ≤ 1000) : (enter old new ts).1.length ≤ 1000 ∧ (enter old new ts).2.1.length ≤ 1000 := enter_le old new ts hn ht
theorem leave_le (old new : List Int) (hn : new.length ≤ 1000) : (leave old new).1.length ≤ 1000 ∧ (leave old new).2.1.length ≤ 1000 := by
  unfold leave
  split <;> simp [hn]
end CP
/-- What counts behind one entry. -/
def cf1 (o n : List Int) (kd : Int) (ms : List Int) : List Int × List Int :=
  if kd = 2 then (if (CP.enter o n ms).2.2 = 0 then ((CP.enter o n ms).1, (CP.enter o n ms).2.1) else (o, n))
  else if kd = 4 then (if (CP.leave o n).2.2 = 0 then ((CP.leave o n).1, (CP.leave o n).2.1) else (o, n)) else (o, n)
/-- What counts behind a log. -/
def cf (l : List S105) (c : List Int × List Int) : List Int × List Int := l.foldl (fun c x => cf1 c.1 c.2 x.f1.f0 x.f1.f4) c
theorem cf_snoc (l : List S105) (x : S105) (c : List Int × List Int) : cf (l ++ [x]) c = cf1 (cf l c).1 (cf l c).2 x.f1.f0 x.f1.f4 := by simp [cf, List.foldl_append]
theorem cf1_le (o n : List Int) (kd : Int) (ms : List Int) (ho : o.length ≤ 1000) (hn : n.length ≤ 1000) (hm : ms.length ≤ 1000) : (cf1 o n kd ms).1.length ≤ 1000 ∧ (cf1 o n kd ms).2.length ≤ 1000 := by
  unfold cf1
  have h1 := CP.enter_le7 o n ms hn hm
  have h2 := CP.leave_le o n hn
  split
  · split
    · exact h1
    · exact ⟨ho, hn⟩
  · split
    · split
      · exact h2
      · exact ⟨ho, hn⟩
    · exact ⟨ho, hn⟩
theorem cf_le (l : List S105) (c : List Int × List Int) (ho : c.1.length ≤ 1000) (hn : c.2.length ≤ 1000) (hm : ∀ x ∈ l, x.f1.f4.length ≤ 1000) : (cf l c).1.length ≤ 1000 ∧ (cf l c).2.length ≤ 1000 := by
  induction l generalizing c with
  | nil => exact ⟨ho, hn⟩
  | cons x l ih =>
    have h := cf1_le c.1 c.2 x.f1.f0 x.f1.f4 ho hn (hm x (by simp))
    exact ih (cf1 c.1 c.2 x.f1.f0 x.f1.f4) h.1 h.2 (fun y hy => hm y (by simp [hy]))
/-- An entry such as the law makes is good as it is. -/
theorem good_e (kd : Int) (l : List Int) (h : kd = 2 ∨ kd = 4 ∨ kd = 1) (hl : l.length ≤ 7) : synodallaw2_Good.f 5 kd 0 0 ⟨#[]⟩ l 0 = some (kd, 0, 0, ⟨#[]⟩, l, 0) := by
  have h0 : synodallaw2_within.f 0 3 = some 0 := by unfold synodallaw2_within.f; rw [if_neg (by decide), if_neg (by decide)]; rfl
  have h1 : synodallaw2_within.f kd 5 = some kd := by
    unfold synodallaw2_within.f
    rcases h with rfl | rfl | rfl <;> (rw [if_neg (by decide), if_neg (by decide)]; rfl)
  unfold synodallaw2_Good.f
  rw [h0, h1]
  simp only [Option.bind_some]
  rw [if_neg (by decide)]
  simp only [synodallaw2_Good.j0]
  rw [if_neg (by omega)]
end Go.Proofs.Ytbomomaidglegaa.Hist
