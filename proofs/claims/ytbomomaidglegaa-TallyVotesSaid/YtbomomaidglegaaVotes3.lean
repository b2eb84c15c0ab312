/- Votes, plain laws; and what Plain and Good hand back. -/
import Derived.Test.YtbomomaidglegaaVotes2
namespace Go.Proofs.Ytbomomaidglegaa.XTally
open Go Go.RowKit Go.Maps Go.Proofs.YtbomomaidglegaaW.PrintWords Go.Proofs.YtbomomaidglegaaW.PrintLast Go.Proofs.YtbomomaidglegaaW.PrintMore
namespace CP
/-- Members that rise, from behind b on, and that there are. -/
def rises : Int → List Int → Bool
  | _, [] => true
  | b, x :: l => decide (b < x) && decide (x < 9) && rises x l

theorem rises_snoc (b x : Int) (l : List Int) (h : rises b l = true) (hb : b < x) (hx : x < 9) (hl : ∀ y ∈ l, y < x) : rises b (l ++ [x]) = true := by
  induction l generalizing b with
  | nil => simp [rises, hb, hx]
  | cons y l ih =>
    simp only [rises, Bool.and_eq_true, decide_eq_true_eq] at h
    simp only [List.cons_append, rises, Bool.and_eq_true, decide_eq_true_eq]
    exact ⟨h.1, ih y h.2 (hl y (by simp)) (fun z hz => hl z (by simp [hz]))⟩

theorem rises_mem (b : Int) (l : List Int) (h : rises b l = true) : ∀ x ∈ l, b < x ∧ x < 9 := by
  induction l generalizing b with
  | nil => simp
  | cons y l ih =>
    simp only [rises, Bool.and_eq_true, decide_eq_true_eq] at h
    intro x hx
    rcases List.mem_cons.1 hx with rfl | hx
    · exact h.1
    · have := ih y h.2 x hx
      omega

theorem rises_nodup (b : Int) (l : List Int) (h : rises b l = true) : l.Nodup := by
  induction l generalizing b with
  | nil => simp
  | cons y l ih =>
    simp only [rises, Bool.and_eq_true, decide_eq_true_eq] at h
    refine List.nodup_cons.2 ⟨fun hm => ?_, ih y h.2⟩
    have := rises_mem y l h.2 y hm
    omega

theorem list_l (bits : Int) (d : Nat) : ∀ (i : Int) (out : List Int), 0 ≤ i → i ≤ 9 → 9 - i = d → out.length ≤ 7 → rises (-1) out = true → (∀ x ∈ out, x < i) →
    ∃ r, (∀ k, 2 * d + 1 < k → synodallaw8_List.l0 k bits out i = some r) ∧ r.length ≤ 7 ∧ rises (-1) r = true := by
  induction d with
  | zero =>
    intro i out h0 h1 hd ho hr hm
    refine ⟨out, fun k hk => ?_, by omega, hr⟩
    obtain ⟨k, rfl⟩ : ∃ m, k = m + 2 := ⟨k - 2, by omega⟩
    simp only [synodallaw8_List.l0]; rw [if_neg (by omega)]; simp [synodallaw8_List.j1]
  | succ d ih =>
    intro i out h0 h1 hd ho hr hm
    by_cases e : (out.length : Int) < 7
    · by_cases b : Go.bits .and .i64 (shr .i64 bits i) 1 = 1
      · obtain ⟨r, h, hl⟩ := ih (i + 1) (out ++ [i]) (by omega) (by omega) (by omega) (by simp; omega) (rises_snoc _ _ _ hr (by omega) (by omega) hm) (by
          intro x hx
          rcases List.mem_append.1 hx with hx | hx
          · have := hm x hx; omega
          · simp at hx; omega)
        refine ⟨r, fun k hk => ?_, hl⟩
        obtain ⟨k, rfl⟩ : ∃ m, k = m + 2 := ⟨k - 2, by omega⟩
        simp only [synodallaw8_List.l0]; rw [if_pos (by omega)]; simp only [synodallaw8_List.j1]
        rw [CP.wrap_small (by omega) (by omega), if_pos (by simpa using e), if_pos h0, if_pos b, if_pos (by omega)]
        exact h k (by omega)
      · obtain ⟨r, h, hl⟩ := ih (i + 1) out (by omega) (by omega) (by omega) ho hr (fun x hx => by have := hm x hx; omega)
        refine ⟨r, fun k hk => ?_, hl⟩
        obtain ⟨k, rfl⟩ : ∃ m, k = m + 2 := ⟨k - 2, by omega⟩
        simp only [synodallaw8_List.l0]; rw [if_pos (by omega)]; simp only [synodallaw8_List.j1]
        rw [CP.wrap_small (by omega) (by omega), if_pos (by simpa using e), if_pos h0, if_neg b]
        exact h k (by omega)
    · refine ⟨out, fun k hk => ?_, ho, hr⟩
      obtain ⟨k, rfl⟩ : ∃ m, k = m + 2 := ⟨k - 2, by omega⟩
      simp only [synodallaw8_List.l0]; rw [if_pos (by omega)]; simp only [synodallaw8_List.j1]
      rw [if_neg (by simpa using e)]

theorem list_f (bits : Int) : ∃ r, (∀ k, 20 ≤ k → synodallaw8_List.f k bits = some r) ∧ r.length ≤ 7 ∧ rises (-1) r = true := by
  obtain ⟨r, h, hl, hr⟩ := list_l bits 9 0 [] (by omega) (by omega) (by omega) (by simp) rfl (by simp)
  exact ⟨r, fun k hk => h k (by omega), hl, hr⟩

theorem plain_f (bits : Int) : ∃ r, (∀ k, 20 ≤ k → synodallaw8_Plain.f k bits = some ([], r)) ∧ 1 ≤ r.length ∧ r.length ≤ 7 ∧ rises (-1) r = true := by
  obtain ⟨r, hr, h, hs⟩ := list_f bits
  by_cases e : (r.length : Int) = 0
  · refine ⟨[0], fun k hk => ?_, by simp, by simp, by decide⟩
    unfold synodallaw8_Plain.f
    rw [hr k hk]
    simp only [Option.bind_some]
    rw [if_pos e]
  · refine ⟨r, fun k hk => ?_, by omega, h, hs⟩
    unfold synodallaw8_Plain.f
    rw [hr k hk]
    simp only [Option.bind_some]
    rw [if_neg e]
end CP

namespace CP
theorem good_f (old now : Int) : ∃ a b, (∀ k, 20 ≤ k → synodallaw8_Good.f k old now = some (a, b)) ∧ a.length ≤ 7 ∧ 1 ≤ b.length ∧ b.length ≤ 7 ∧ rises (-1) a = true ∧ rises (-1) b = true := by
  obtain ⟨b, hb, hb0, hb1, hbr⟩ := plain_f now
  obtain ⟨a, ha, ha1, har⟩ := list_f old
  refine ⟨a, b, fun k hk => ?_, ha1, hb0, hb1, har, hbr⟩
  unfold synodallaw8_Good.f
  rw [hb k hk]
  simp only [Option.bind_some]
  rw [ha k hk]
  rfl

end CP
end Go.Proofs.Ytbomomaidglegaa.XTally
namespace Go.Proofs.Ytbomomaidglegaa.Votes
open Go Go.RowKit Go.Maps Go.Proofs.Ytbomomaidglegaa.XTally Go.Proofs.YtbomomaidglegaaW.PrintWords Go.Proofs.YtbomomaidglegaaW.PrintLast Go.Proofs.YtbomomaidglegaaW.PrintMore
theorem wf_small (x : Int) (h0 : -1 < x) (h1 : x < 9) : (Lit.int .i64 x).wf = true := by
  rcases (show x = 0 ∨ x = 1 ∨ x = 2 ∨ x = 3 ∨ x = 4 ∨ x = 5 ∨ x = 6 ∨ x = 7 ∨ x = 8 by omega) with rfl | rfl | rfl | rfl | rfl | rfl | rfl | rfl | rfl <;> decide
theorem mem_upTo_ (d : Array Int) (m : Nat) (x : Int) (h : x ∈ Lib.compactUpTo d m) : ∃ i, i < m ∧ d[i]! = x := by
  unfold Lib.compactUpTo at h
  obtain ⟨i, hi, rfl⟩ := List.mem_map.1 h
  exact ⟨i, List.mem_range.1 (List.mem_filter.1 hi).1, rfl⟩
theorem of_compact (l : List Int) (x : Int) (h : x ∈ Lib.compact l) : x ∈ l := by
  have h' : x ∈ Lib.compactUpTo l.toArray l.length := by simpa [Lib.compact] using h
  obtain ⟨i, hi, rfl⟩ := mem_upTo_ _ _ _ h'
  rw [getElem!_pos l.toArray i (by simpa using hi)]
  simp
theorem of_members (a b : List Int) (x : Int) (h : x ∈ Mem.members a b) : x ∈ a ∨ x ∈ b := by
  have h := of_compact _ _ h
  rw [List.mem_mergeSort] at h
  exact List.mem_append.1 h
theorem mem_upTo2 (d : Array Int) (m : Nat) : ∀ j, j < m → d[j]! ∈ Lib.compactUpTo d m := by
  intro j
  induction j with
  | zero => exact fun h => List.mem_map.2 ⟨0, List.mem_filter.2 ⟨List.mem_range.2 h, Lib.keeps_lt_one d 0 (by omega)⟩, rfl⟩
  | succ j ih =>
    intro h
    by_cases e : d[j + 1]! = d[j]!
    · rw [e]
      exact ih (by omega)
    · exact List.mem_map.2 ⟨j + 1, List.mem_filter.2 ⟨List.mem_range.2 h, Lib.keeps_pos (by simpa using e)⟩, rfl⟩
theorem to_members (a b : List Int) (x : Int) (h : x ∈ a ∨ x ∈ b) : x ∈ Mem.members a b := by
  have h1 : x ∈ (a ++ b).mergeSort (fun x y => decide (x ≤ y)) := by rw [List.mem_mergeSort]; exact List.mem_append.2 h
  obtain ⟨i, hi, h2⟩ := List.mem_iff_getElem.1 h1
  have := mem_upTo2 ((a ++ b).mergeSort (fun x y => decide (x ≤ y))).toArray _ i hi
  rw [getElem!_pos _ i (by simpa using hi)] at this
  rw [← h2]
  simpa [Mem.members, Lib.compact] using this
theorem mem_members_iff (a b : List Int) (x : Int) : x ∈ Mem.members a b ↔ x ∈ a ∨ x ∈ b := ⟨of_members a b x, to_members a b x⟩

/-! ### Everybody has voted, each once -/
/-- Everybody's vote, by a rule. -/
def allV (f : Int → Bool) (l : List Int) : List (Int × Bool) := l.map fun x => (x, f x)
theorem allV_snoc (f : Int → Bool) (l : List Int) (x : Int) : allV f (l ++ [x]) = allV f l ++ [(x, f x)] := by simp [allV]
theorem vids_all (f : Int → Bool) (l : List Int) : vids (allV f l) = l := by simp [vids, allV, Function.comp_def]
theorem vyes_all (f : Int → Bool) (l : List Int) (x : Int) (h : x ∈ l) : vyes (allV f l) x = f x := by
  induction l using Reach.snoc_ind with
  | h0 => cases h
  | h1 l y ih =>
    rw [allV_snoc, vyes_snoc]
    by_cases e : y = x
    · subst e; simp
    · rw [if_neg e]
      refine ih ?_
      rcases List.mem_append.1 h with h | h
      · exact h
      · simp at h; exact absurd h.symm e
theorem yes_all (f : Int → Bool) (l : List Int) (x : Int) : x ∈ yesV (allV f l) ↔ x ∈ l ∧ f x = true := by
  rw [mem_yesV, vids_all]
  exact ⟨fun h => ⟨h.1, by rw [← vyes_all f l x h.1]; exact h.2⟩, fun h => ⟨h.1, by rw [vyes_all f l x h.1]; exact h.2⟩⟩
theorem lost_all (f : Int → Bool) (l : List Int) (x : Int) : x ∈ lostL (allV f l) (Mem.members [] l) ↔ x ∈ l ∧ f x = true := by
  unfold lostL
  rw [List.mem_filter, mem_members_iff, vids_all]
  constructor
  · rintro ⟨h, h2⟩
    rcases h with h | h
    · cases h
    · rw [vyes_all f l x h] at h2
      exact ⟨h, by simpa [h] using h2⟩
  · rintro ⟨h, h2⟩
    exact ⟨.inr h, by rw [vyes_all f l x h, h2]; rfl⟩
theorem votes_all (f : Int → Bool) (l ys : List Int) (h : ∀ x, x ∈ ys ↔ x ∈ l ∧ f x = true) : CP.votes ys l = l.countP f := by
  unfold CP.votes
  refine List.countP_congr (fun x hx => ?_)
  rw [decide_eq_true_eq, h x]
  exact ⟨fun h => h.2, fun h => ⟨hx, h⟩⟩
theorem quorum_all (f : Int → Bool) (l ys : List Int) (h : ∀ x, x ∈ ys ↔ x ∈ l ∧ f x = true) : CP.quorum [] l ys = decide (2 * (l.countP f : Int) > (l.length : Int)) := by
  unfold CP.quorum CP.half
  rw [votes_all f l ys h]
  simp
theorem count_snoc (f : Int → Bool) (l : List Int) (x : Int) : (l ++ [x]).countP f = l.countP f + (if f x = true then 1 else 0) := by
  rw [List.countP_append]
  simp [List.countP_cons]
theorem addOk_new (f : Int → Bool) (r : List Int) (i : Nat) (hi : i < r.length) (hn : r.Nodup) : addOk [] r (allV f (r.take i)) r[i] = true := by
  unfold addOk
  rw [vids_all]
  have h0 : r = r.take i ++ (r[i] :: r.drop (i + 1)) := by rw [← List.drop_eq_getElem_cons hi, List.take_append_drop]
  have h1 : r[i] ∉ r.take i := fun h => by
    rw [h0, List.nodup_append] at hn
    exact hn.2.2 _ h _ (List.mem_cons.2 (.inl rfl)) rfl
  simp [h1]
theorem addOk_old (f : Int → Bool) (l o n : List Int) (x : Int) (h : x ∈ l) : addOk o n (allV f l) x = false := by
  unfold addOk
  rw [vids_all]
  simp [h]
theorem addOk_out (o n : List Int) (vs : List (Int × Bool)) (x : Int) (ho : x ∉ o) (hn : x ∉ n) : addOk o n vs x = false := by
  unfold addOk
  simp [ho, hn]
end Go.Proofs.Ytbomomaidglegaa.Votes
