/- The document's membership, quorum and members: what they answer. -/
import Derived.Test.YtbomomaidglegaaVotes3
namespace Go.Proofs.Ytbomomaidglegaa.Votes
open Go Go.RowKit Go.Maps Go.Proofs.Ytbomomaidglegaa.XTally Go.Proofs.YtbomomaidglegaaW.PrintWords Go.Proofs.YtbomomaidglegaaW.PrintLast Go.Proofs.YtbomomaidglegaaW.PrintMore
set_option linter.unusedVariables false

theorem has8_l (l : List Int) (a : Int) (hl : l.length ≤ 1000000) (d : Nat) : ∀ (k i : Nat), i ≤ l.length → l.length - i = d → d < k → synodalref8_has.l0 k l a (i : Int) = some (decide (a ∈ l.drop i)) := by
  induction d with
  | zero =>
    intro k i h1 h2 hk
    obtain ⟨k, rfl⟩ : ∃ m, k = m + 1 := ⟨k - 1, by omega⟩
    have : l.drop i = [] := List.drop_eq_nil_of_le (by omega)
    simp only [synodalref8_has.l0]; rw [if_neg (by omega), this]
    simp
  | succ d ih =>
    intro k i h1 h2 hk
    obtain ⟨k, rfl⟩ : ∃ m, k = m + 1 := ⟨k - 1, by omega⟩
    have hlt : i < l.length := by omega
    simp only [synodalref8_has.l0]
    rw [if_pos (by omega), if_pos (by omega), CP.rd_at l i hlt, List.drop_eq_getElem_cons hlt]
    by_cases e : l[i] = a
    · rw [if_pos e, decide_eq_true (List.mem_cons.2 (.inl e.symm))]
    · rw [if_neg e, CP.wrap_next i (by omega), ih k (i + 1) (by omega) (by omega) (by omega)]
      congr 1
      exact decide_eq_decide.mpr ⟨fun h => List.mem_cons.2 (.inr h), fun h => (List.mem_cons.1 h).resolve_left (fun h => e h.symm)⟩
theorem has8_f (l : List Int) (a : Int) (hl : l.length ≤ 1000000) (k : Nat) (hk : l.length < k) : synodalref8_has.f k l a = some (decide (a ∈ l)) := by
  have h := has8_l l a hl l.length k 0 (by omega) (by omega) hk
  rw [List.drop_zero] at h
  exact h
theorem in9_l (l : List Int) (a : Int) (hl : l.length ≤ 1000000) (d : Nat) : ∀ (k i : Nat), i ≤ l.length → l.length - i = d → d < k → synodalref9_in.l0 k l a (i : Int) = some (decide (a ∈ l.drop i)) := by
  induction d with
  | zero =>
    intro k i h1 h2 hk
    obtain ⟨k, rfl⟩ : ∃ m, k = m + 1 := ⟨k - 1, by omega⟩
    have : l.drop i = [] := List.drop_eq_nil_of_le (by omega)
    simp only [synodalref9_in.l0]; rw [if_neg (by omega), this]
    simp
  | succ d ih =>
    intro k i h1 h2 hk
    obtain ⟨k, rfl⟩ : ∃ m, k = m + 1 := ⟨k - 1, by omega⟩
    have hlt : i < l.length := by omega
    simp only [synodalref9_in.l0]
    rw [if_pos (by omega), if_pos (by omega), CP.rd_at l i hlt, List.drop_eq_getElem_cons hlt]
    by_cases e : l[i] = a
    · rw [if_pos e, decide_eq_true (List.mem_cons.2 (.inl e.symm))]
    · rw [if_neg e, CP.wrap_next i (by omega), ih k (i + 1) (by omega) (by omega) (by omega)]
      congr 1
      exact decide_eq_decide.mpr ⟨fun h => List.mem_cons.2 (.inr h), fun h => (List.mem_cons.1 h).resolve_left (fun h => e h.symm)⟩
theorem in9_f (l : List Int) (a : Int) (hl : l.length ≤ 1000000) (k : Nat) (hk : l.length < k) : synodalref9_in.f k l a = some (decide (a ∈ l)) := by
  have h := in9_l l a hl l.length k 0 (by omega) (by omega) hk
  rw [List.drop_zero] at h
  exact h
theorem in8_f (o n : List Int) (x : Int) (ho : o.length ≤ 1000) (hn : n.length ≤ 1000) (k : Nat) (hk : 1000 < k) : synodalref8_In.f k o n x = some (decide (x ∈ o ∨ x ∈ n)) := by
  unfold synodalref8_In.f
  rw [has8_f o x (by omega) k (by omega)]
  simp only [Option.bind_some]
  by_cases h : x ∈ o
  · simp [h]
  · rw [has8_f n x (by omega) k (by omega)]
    simp [h]
theorem half8_l (l yes : List Int) (hl : l.length ≤ 1000000) (hy : yes.length ≤ 1000000) (d : Nat) : ∀ (k i : Nat) (n : Int), i ≤ l.length → l.length - i = d → d + yes.length + 1 < k → 0 ≤ n → n ≤ i →
    synodalref8_half.l0 k l yes n (i : Int) = some (decide (2 * (n + CP.votes yes (l.drop i)) > (l.length : Int))) := by
  induction d with
  | zero =>
    intro k i n h1 h2 hk h3 h4
    obtain ⟨k, rfl⟩ : ∃ m, k = m + 1 := ⟨k - 1, by omega⟩
    have : l.drop i = [] := List.drop_eq_nil_of_le (by omega)
    simp only [synodalref8_half.l0]; rw [if_neg (by omega), this, CP.wrap_small (by omega) (by omega)]
    simp [CP.votes]
  | succ d ih =>
    intro k i n h1 h2 hk h3 h4
    obtain ⟨k, rfl⟩ : ∃ m, k = m + 1 := ⟨k - 1, by omega⟩
    have hlt : i < l.length := by omega
    simp only [synodalref8_half.l0]
    rw [if_pos (by omega), if_pos (by omega), CP.rd_at l i hlt, has8_f yes l[i] hy k (by omega)]
    simp only [Option.bind_some]
    rw [CP.wrap_next i (by omega), CP.votes_drop yes l i hlt]
    by_cases e : l[i] ∈ yes
    · rw [if_pos (by simpa using e), if_pos e, CP.wrap_small (by omega) (by omega), ih k (i + 1) (n + 1) (by omega) (by omega) (by omega) (by omega) (by omega)]
      congr 1
      exact decide_eq_decide.mpr (by omega)
    · rw [if_neg (by simpa using e), if_neg e, ih k (i + 1) n (by omega) (by omega) (by omega) (by omega) (by omega)]
      congr 1
      exact decide_eq_decide.mpr (by omega)
theorem half8_f (l yes : List Int) (hl : l.length ≤ 1000000) (hy : yes.length ≤ 1000000) (k : Nat) (hk : l.length + yes.length + 1 < k) : synodalref8_half.f k l yes = some (CP.half l yes) := by
  have h := half8_l l yes hl hy l.length k 0 0 (by omega) (by omega) hk (by omega) (by omega)
  unfold synodalref8_half.f CP.half
  rw [show (0 : Int) = ((0 : Nat) : Int) from rfl] at *
  rw [h, List.drop_zero]
  congr 1
  exact decide_eq_decide.mpr (by omega)
theorem quorum8_f (old new yes : List Int) (ho : old.length ≤ 1000000) (hl : new.length ≤ 1000000) (hy : yes.length ≤ 1000000) (k : Nat) (hk : old.length + new.length + yes.length + 1 < k) :
    synodalref8_Quorum.f k old new yes = some (CP.quorum old new yes) := by
  unfold synodalref8_Quorum.f synodalref8_Joint.f CP.quorum
  rw [half8_f new yes hl hy k (by omega)]
  simp only [Option.bind_some]
  cases h : CP.half new yes
  · simp
  · rw [if_pos rfl]
    by_cases e : old = []
    · subst e; simp
    · have : 0 < old.length := List.length_pos_iff.mpr e
      rw [if_pos (by simp; omega), half8_f old yes ho hy k (by omega)]
      simp [e]
/-- The members from 9 - d on. -/
def mem8 (o n : List Int) : Nat → List Int
  | 0 => []
  | d + 1 => (if 9 - ((d + 1 : Nat) : Int) ∈ o ∨ 9 - ((d + 1 : Nat) : Int) ∈ n then [9 - ((d + 1 : Nat) : Int)] else []) ++ mem8 o n d
theorem mem8_mem (o n : List Int) (d : Nat) (x : Int) : x ∈ mem8 o n d ↔ (9 - (d : Int) ≤ x ∧ x < 9) ∧ (x ∈ o ∨ x ∈ n) := by
  induction d with
  | zero => simp only [mem8]; exact ⟨fun h => (List.not_mem_nil h).elim, fun h => by omega⟩
  | succ d ih =>
    simp only [mem8]
    rw [List.mem_append, ih]
    by_cases e : x = 9 - ((d + 1 : Nat) : Int)
    · subst e
      by_cases h : 9 - ((d + 1 : Nat) : Int) ∈ o ∨ 9 - ((d + 1 : Nat) : Int) ∈ n
      · rw [if_pos h]
        exact ⟨fun _ => ⟨⟨Int.le_refl _, by omega⟩, h⟩, fun _ => .inl (List.mem_singleton.2 rfl)⟩
      · rw [if_neg h]
        exact ⟨fun h2 => h2.elim (fun h3 => (List.not_mem_nil h3).elim) (fun h3 => absurd h3.2 h), fun h2 => absurd h2.2 h⟩
    · have h1 : ¬ x ∈ (if 9 - ((d + 1 : Nat) : Int) ∈ o ∨ 9 - ((d + 1 : Nat) : Int) ∈ n then [9 - ((d + 1 : Nat) : Int)] else []) := by
        split
        · exact fun h => e (List.mem_singleton.1 h)
        · exact List.not_mem_nil
      exact ⟨fun h => h.elim (fun h => absurd h h1) (fun h => ⟨⟨by omega, h.1.2⟩, h.2⟩), fun h => .inr ⟨⟨by omega, h.1.2⟩, h.2⟩⟩
theorem mem8_le (o n : List Int) (d : Nat) : (mem8 o n d).length ≤ d := by
  induction d with
  | zero => exact Nat.le_refl _
  | succ d ih =>
    simp only [mem8]
    rw [List.length_append]
    split <;> simp <;> omega
theorem members8_l (o n : List Int) (ho : o.length ≤ 1000) (hn : n.length ≤ 1000) (d : Nat) : ∀ (k : Nat) (acc : List Int), d ≤ 9 → 1000 + d < k → acc.length ≤ 9 - d →
    synodalref8_Members.l0 k acc (9 - (d : Int)) o n = some (acc ++ mem8 o n d) := by
  induction d with
  | zero =>
    intro k acc h1 hk h2
    obtain ⟨k, rfl⟩ : ∃ m, k = m + 1 := ⟨k - 1, by omega⟩
    simp only [synodalref8_Members.l0, mem8]; rw [if_neg (by omega), List.append_nil]
  | succ d ih =>
    intro k acc h1 hk h2
    obtain ⟨k, rfl⟩ : ∃ m, k = m + 1 := ⟨k - 1, by omega⟩
    simp only [synodalref8_Members.l0, mem8]
    rw [if_pos (by omega), in8_f o n _ ho hn k (by omega)]
    simp only [Option.bind_some]
    rw [CP.wrap_small (by omega) (by omega), show (9 - ((d + 1 : Nat) : Int) + 1) = 9 - (d : Int) by omega]
    by_cases h : 9 - ((d + 1 : Nat) : Int) ∈ o ∨ 9 - ((d + 1 : Nat) : Int) ∈ n
    · rw [if_pos (decide_eq_true h), if_pos (by omega), ih k _ (by omega) (by omega) (by rw [List.length_append]; simp; omega), if_pos h, List.append_assoc]
    · rw [if_neg (by simpa using h), ih k _ (by omega) (by omega) (by omega), if_neg h, List.nil_append]
theorem members8_f (o n : List Int) (ho : o.length ≤ 1000) (hn : n.length ≤ 1000) : synodalref8_Members.f 1010 o n = some (mem8 o n 9) := by
  have h := members8_l o n ho hn 9 1010 [] (by omega) (by omega) (by simp)
  rw [List.nil_append] at h
  exact h
end Go.Proofs.Ytbomomaidglegaa.Votes
