/- What more votes answers. -/
import Derived.Test.YtimeknpdgloenaaXConfMorex10
namespace Go.Proofs.Ytimeknpdgloenaa.Pure
open Go.RowKit Go.Proofs.Ytimeknpdgloenaa.XConfMore Go.Proofs.YtimeknpdgloenaaW.PrintWords Go.Proofs.YtimeknpdgloenaaW.PrintLast Go.Proofs.YtimeknpdgloenaaW.PrintMore

namespace CP
theorem wrap_small {x : Int} (h0 : -1000000000000 ≤ x) (h : x ≤ 1000000000000) : wrap64 x = x := by
  unfold wrap64
  omega
theorem wrap_next (i : Nat) (h : i ≤ 1000000) : wrap64 ((i : Int) + 1) = ((i + 1 : Nat) : Int) := by rw [wrap_small (by omega) (by omega)]; rfl

theorem rd_at (l : List Int) (i : Nat) (h : i < l.length) : rd l (i : Int) = l[i] := by
  unfold rd
  simp [List.getD, h]

theorem index_l (l : List Int) (a : Int) (hl : l.length ≤ 1000000) (d : Nat) : ∀ (k i : Nat), i ≤ l.length → l.length - i = d → d < k →
    ∃ r, slices_Index_int_int.l0 k l a (l.length : Int) (i : Int) = some r ∧ (r ≥ 0 ↔ a ∈ l.drop i) := by
  induction d with
  | zero =>
    intro k i h1 h2 hk
    obtain ⟨k, rfl⟩ : ∃ m, k = m + 1 := ⟨k - 1, by omega⟩
    refine ⟨-1, ?_, ?_⟩
    · simp only [slices_Index_int_int.l0]; rw [if_neg (by omega)]
    · have : l.drop i = [] := List.drop_eq_nil_of_le (by omega)
      simp [this]
  | succ d ih =>
    intro k i h1 h2 hk
    obtain ⟨k, rfl⟩ : ∃ m, k = m + 1 := ⟨k - 1, by omega⟩
    have hlt : i < l.length := by omega
    have hd := List.drop_eq_getElem_cons hlt
    simp only [slices_Index_int_int.l0]
    rw [if_pos (by omega), if_pos (by omega), if_pos (by omega), rd_at l i hlt]
    by_cases e : a = l[i]
    · rw [if_pos e]
      exact ⟨_, rfl, by rw [hd]; simp [← e]⟩
    · rw [if_neg e, wrap_next i (by omega)]
      obtain ⟨r, hr, h⟩ := ih k (i + 1) (by omega) (by omega) (by omega)
      exact ⟨r, hr, by rw [h, hd, List.mem_cons]; exact ⟨Or.inr, fun h' => h'.resolve_left e⟩⟩

theorem contains_f (l : List Int) (a : Int) (hl : l.length ≤ 1000000) (k : Nat) (hk : l.length < k) :
    slices_Contains_int_int.f k l a = some (decide (a ∈ l)) := by
  obtain ⟨r, hr, h⟩ := index_l l a hl l.length k 0 (by omega) (by omega) hk
  unfold slices_Contains_int_int.f slices_Index_int_int.f
  rw [show (0 : Int) = ((0 : Nat) : Int) from rfl, hr]
  simp only [Option.bind_some]
  rw [List.drop_zero] at h
  congr 1
  exact decide_eq_decide.mpr h

/-- How many of l are among the votes. -/
def votes (yes l : List Int) : Nat := l.countP (fun x => decide (x ∈ yes))

theorem votes_drop (yes l : List Int) (i : Nat) (h : i < l.length) : votes yes (l.drop i) = (if l[i] ∈ yes then 1 else 0) + votes yes (l.drop (i + 1)) := by
  unfold votes
  rw [List.drop_eq_getElem_cons h, List.countP_cons]
  by_cases e : l[i] ∈ yes <;> simp [e]
  omega

theorem votes_le (yes l : List Int) : votes yes l ≤ l.length := List.countP_le_length

theorem half_l (l yes : List Int) (hl : l.length ≤ 1000000) (hy : yes.length ≤ 1000000) (d : Nat) : ∀ (k i : Nat) (n : Int), i ≤ l.length → l.length - i = d → d + yes.length + 1 < k → 0 ≤ n → n ≤ i →
    conf_half.l0 k l yes n l (l.length : Int) (i : Int) = some (decide (2 * (n + votes yes (l.drop i)) > (l.length : Int))) := by
  induction d with
  | zero =>
    intro k i n h1 h2 hk h3 h4
    obtain ⟨k, rfl⟩ : ∃ m, k = m + 1 := ⟨k - 1, by omega⟩
    have : l.drop i = [] := List.drop_eq_nil_of_le (by omega)
    simp only [conf_half.l0]; rw [if_neg (by omega), this, wrap_small (by omega) (by omega)]
    simp [votes]
  | succ d ih =>
    intro k i n h1 h2 hk h3 h4
    obtain ⟨k, rfl⟩ : ∃ m, k = m + 1 := ⟨k - 1, by omega⟩
    have hlt : i < l.length := by omega
    simp only [conf_half.l0]
    rw [if_pos (by omega), if_pos (by omega), if_pos (by omega), rd_at l i hlt, contains_f yes l[i] hy k (by omega)]
    simp only [Option.bind_some]
    rw [wrap_next i (by omega), votes_drop yes l i hlt]
    by_cases e : l[i] ∈ yes
    · rw [if_pos (by simpa using e), if_pos e, wrap_small (by omega) (by omega), ih k (i + 1) (n + 1) (by omega) (by omega) (by omega) (by omega) (by omega)]
      congr 1
      exact decide_eq_decide.mpr (by omega)
    · rw [if_neg (by simpa using e), if_neg e, ih k (i + 1) n (by omega) (by omega) (by omega) (by omega) (by omega)]
      congr 1
      exact decide_eq_decide.mpr (by omega)

/-- More than half of l are among the votes. -/
def half (l yes : List Int) : Bool := decide (2 * (votes yes l : Int) > (l.length : Int))

theorem half_f (l yes : List Int) (hl : l.length ≤ 1000000) (hy : yes.length ≤ 1000000) (k : Nat) (hk : l.length + yes.length + 1 < k) :
    conf_half.f k l yes = some (half l yes) := by
  have h := half_l l yes hl hy l.length k 0 0 (by omega) (by omega) hk (by omega) (by omega)
  unfold conf_half.f half
  rw [show (0 : Int) = ((0 : Nat) : Int) from rfl] at *
  rw [h, List.drop_zero]
  congr 1
  exact decide_eq_decide.mpr (by omega)

/-- The votes are a quorum. -/
def quorum (old new yes : List Int) : Bool := half new yes && (decide (old = []) || half old yes)

theorem quorum_f (old new yes : List Int) (ho : old.length ≤ 1000000) (hl : new.length ≤ 1000000) (hy : yes.length ≤ 1000000) (k : Nat) (hk : old.length + new.length + yes.length + 1 < k) :
    conf_Quorum.f k old new yes = some (quorum old new yes) := by
  unfold conf_Quorum.f conf_Joint.f quorum
  rw [half_f new yes hl hy k (by omega)]
  simp only [Option.bind_some]
  cases h : half new yes
  · simp
  · rw [if_pos rfl]
    by_cases e : old = []
    · subst e; simp
    · have : 0 < old.length := List.length_pos_iff.mpr e
      rw [if_pos (by simp; omega), half_f old yes ho hy k (by omega)]
      simp [e]

theorem known_f (k : Nat) (hk : 10 ≤ k) : synodallaw8_known.f k = some true := by
  unfold synodallaw8_known.f
  rw [quorum_f _ _ _ (by simp) (by simp) (by simp) k (by simp; omega), quorum_f _ _ _ (by simp) (by simp) (by simp) k (by simp; omega)]
  decide

/-- Members that rise, from behind b on, and that there are. -/
def rises : Int → List Int → Bool
  | _, [] => true
  | b, x :: l => decide (b < x) && decide (x < 9) && rises x l

theorem rises_snoc (b x : Int) (l : List Int) (h : rises b l = true) (hb : b < x) (hx : x < 9) (hl : ∀ y ∈ l, y < x) : rises b (l ++ [x]) = true := by
  induction l generalizing b with
  | nil => simp [rises, hb, hx]
  | cons y l ih =>
    simp only [rises, Bool.and_eq_true, decide_eq_true_eq] at h
    simp only [List.cons_append, rises, Bool.and_eq_true, decide_eq_true_eq]
    exact ⟨h.1, ih y h.2 (hl y (by simp)) (fun z hz => hl z (by simp [hz]))⟩

theorem rises_mem (b : Int) (l : List Int) (h : rises b l = true) : ∀ x ∈ l, b < x ∧ x < 9 := by
  induction l generalizing b with
  | nil => simp
  | cons y l ih =>
    simp only [rises, Bool.and_eq_true, decide_eq_true_eq] at h
    intro x hx
    rcases List.mem_cons.1 hx with rfl | hx
    · exact h.1
    · have := ih y h.2 x hx
      omega

theorem rises_nodup (b : Int) (l : List Int) (h : rises b l = true) : l.Nodup := by
  induction l generalizing b with
  | nil => simp
  | cons y l ih =>
    simp only [rises, Bool.and_eq_true, decide_eq_true_eq] at h
    refine List.nodup_cons.2 ⟨fun hm => ?_, ih y h.2⟩
    have := rises_mem y l h.2 y hm
    omega

theorem list_l (bits : Int) (d : Nat) : ∀ (i : Int) (out : List Int), 0 ≤ i → i ≤ 9 → 9 - i = d → out.length ≤ 7 → rises (-1) out = true → (∀ x ∈ out, x < i) →
    ∃ r, (∀ k, 2 * d + 1 < k → synodallaw8_List.l0 k bits out i = some r) ∧ r.length ≤ 7 ∧ rises (-1) r = true := by
  induction d with
  | zero =>
    intro i out h0 h1 hd ho hr hm
    refine ⟨out, fun k hk => ?_, by omega, hr⟩
    obtain ⟨k, rfl⟩ : ∃ m, k = m + 2 := ⟨k - 2, by omega⟩
    simp only [synodallaw8_List.l0]; rw [if_neg (by omega)]; simp [synodallaw8_List.j1]
  | succ d ih =>
    intro i out h0 h1 hd ho hr hm
    by_cases e : (out.length : Int) < 7
    · by_cases b : Go.bits .and .i64 (shr .i64 bits i) 1 = 1
      · obtain ⟨r, h, hl⟩ := ih (i + 1) (out ++ [i]) (by omega) (by omega) (by omega) (by simp; omega) (rises_snoc _ _ _ hr (by omega) (by omega) hm) (by
          intro x hx
          rcases List.mem_append.1 hx with hx | hx
          · have := hm x hx; omega
          · simp at hx; omega)
        refine ⟨r, fun k hk => ?_, hl⟩
        obtain ⟨k, rfl⟩ : ∃ m, k = m + 2 := ⟨k - 2, by omega⟩
        simp only [synodallaw8_List.l0]; rw [if_pos (by omega)]; simp only [synodallaw8_List.j1]
        rw [wrap_small (by omega) (by omega), if_pos (by simpa using e), if_pos h0, if_pos b, if_pos (by omega)]
        exact h k (by omega)
      · obtain ⟨r, h, hl⟩ := ih (i + 1) out (by omega) (by omega) (by omega) ho hr (fun x hx => by have := hm x hx; omega)
        refine ⟨r, fun k hk => ?_, hl⟩
        obtain ⟨k, rfl⟩ : ∃ m, k = m + 2 := ⟨k - 2, by omega⟩
        simp only [synodallaw8_List.l0]; rw [if_pos (by omega)]; simp only [synodallaw8_List.j1]
        rw [wrap_small (by omega) (by omega), if_pos (by simpa using e), if_pos h0, if_neg b]
        exact h k (by omega)
    · refine ⟨out, fun k hk => ?_, ho, hr⟩
      obtain ⟨k, rfl⟩ : ∃ m, k = m + 2 := ⟨k - 2, by omega⟩
      simp only [synodallaw8_List.l0]; rw [if_pos (by omega)]; simp only [synodallaw8_List.j1]
      rw [if_neg (by simpa using e)]

theorem list_f (bits : Int) : ∃ r, (∀ k, 20 ≤ k → synodallaw8_List.f k bits = some r) ∧ r.length ≤ 7 ∧ rises (-1) r = true := by
  obtain ⟨r, h, hl, hr⟩ := list_l bits 9 0 [] (by omega) (by omega) (by omega) (by simp) rfl (by simp)
  exact ⟨r, fun k hk => h k (by omega), hl, hr⟩

theorem plain_f (bits : Int) : ∃ r, (∀ k, 20 ≤ k → synodallaw8_Plain.f k bits = some ([], r)) ∧ 1 ≤ r.length ∧ r.length ≤ 7 ∧ rises (-1) r = true := by
  obtain ⟨r, hr, h, hs⟩ := list_f bits
  by_cases e : (r.length : Int) = 0
  · refine ⟨[0], fun k hk => ?_, by simp, by simp, by decide⟩
    unfold synodallaw8_Plain.f
    rw [hr k hk]
    simp only [Option.bind_some]
    rw [if_pos e]
  · refine ⟨r, fun k hk => ?_, by omega, h, hs⟩
    unfold synodallaw8_Plain.f
    rw [hr k hk]
    simp only [Option.bind_some]
    rw [if_neg e]
end CP

namespace CP
theorem all_l (bits : Int) (d : Nat) : ∀ (i : Int) (out : List Int), 0 ≤ i → i ≤ 9 → 9 - i = d → out.length ≤ 9 - d →
    ∃ r, (∀ k, d < k → synodallaw8_all.l0 k bits out i = some r) ∧ r.length ≤ 9 := by
  induction d with
  | zero =>
    intro i out h0 h1 hd ho
    refine ⟨out, fun k hk => ?_, by omega⟩
    obtain ⟨k, rfl⟩ : ∃ m, k = m + 1 := ⟨k - 1, by omega⟩
    simp only [synodallaw8_all.l0]; rw [if_neg (by omega)]
  | succ d ih =>
    intro i out h0 h1 hd ho
    by_cases b : Go.bits .and .i64 (shr .i64 bits i) 1 = 1
    · obtain ⟨r, h, hl⟩ := ih (i + 1) (out ++ [i]) (by omega) (by omega) (by omega) (by simp; omega)
      refine ⟨r, fun k hk => ?_, hl⟩
      obtain ⟨k, rfl⟩ : ∃ m, k = m + 1 := ⟨k - 1, by omega⟩
      simp only [synodallaw8_all.l0]
      rw [if_pos (by omega), if_pos h0, if_pos b, if_pos (by omega), wrap_small (by omega) (by omega)]
      exact h k (by omega)
    · obtain ⟨r, h, hl⟩ := ih (i + 1) out (by omega) (by omega) (by omega) (by omega)
      refine ⟨r, fun k hk => ?_, hl⟩
      obtain ⟨k, rfl⟩ : ∃ m, k = m + 1 := ⟨k - 1, by omega⟩
      simp only [synodallaw8_all.l0]
      rw [if_pos (by omega), if_pos h0, if_neg b, wrap_small (by omega) (by omega)]
      exact h k (by omega)

theorem all_f (bits : Int) : ∃ r, (∀ k, 20 ≤ k → synodallaw8_all.f k bits = some r) ∧ r.length ≤ 9 := by
  obtain ⟨r, h, hl⟩ := all_l bits 9 0 [] (by omega) (by omega) (by omega) (by simp)
  exact ⟨r, fun k hk => h k (by omega), hl⟩
end CP

namespace CP
theorem good_f (old now : Int) : ∃ a b, (∀ k, 20 ≤ k → synodallaw8_Good.f k old now = some (a, b)) ∧ a.length ≤ 7 ∧ 1 ≤ b.length ∧ b.length ≤ 7 ∧ rises (-1) a = true ∧ rises (-1) b = true := by
  obtain ⟨b, hb, hb0, hb1, hbr⟩ := plain_f now
  obtain ⟨a, ha, ha1, har⟩ := list_f old
  refine ⟨a, b, fun k hk => ?_, ha1, hb0, hb1, har, hbr⟩
  unfold synodallaw8_Good.f
  rw [hb k hk]
  simp only [Option.bind_some]
  rw [ha k hk]
  rfl

theorem mem_upTo (d : Array Int) (m : Nat) : ∀ j, j < m → d[j]! ∈ Lib.compactUpTo d m := by
  intro j
  induction j with
  | zero => exact fun h => List.mem_map.2 ⟨0, List.mem_filter.2 ⟨List.mem_range.2 h, Lib.keeps_lt_one d 0 (by omega)⟩, rfl⟩
  | succ j ih =>
    intro h
    by_cases e : d[j + 1]! = d[j]!
    · rw [e]
      exact ih (by omega)
    · exact List.mem_map.2 ⟨j + 1, List.mem_filter.2 ⟨List.mem_range.2 h, Lib.keeps_pos (by simpa using e)⟩, rfl⟩

theorem mem_compact (l : List Int) (x : Int) (h : x ∈ l) : x ∈ Lib.compact l := by
  obtain ⟨i, hi, rfl⟩ := List.mem_iff_getElem.1 h
  have := mem_upTo l.toArray l.length i hi
  rw [getElem!_pos l.toArray i (by simpa using hi)] at this
  simpa [Lib.compact] using this

theorem mem_members (a b : List Int) (x : Int) (h : x ∈ a ∨ x ∈ b) : x ∈ Mem.members a b := by
  refine mem_compact _ x ?_
  rw [List.mem_mergeSort]
  exact List.mem_append.2 h

theorem members_le (a b : List Int) : (Mem.members a b).length ≤ a.length + b.length := by
  have := Lib.compact_length_le ((a ++ b).mergeSort fun x y => decide (x ≤ y))
  rw [List.length_mergeSort, List.length_append] at this
  exact this

theorem votes_mono (x z l : List Int) (h : ∀ v ∈ x, v ∈ z) : votes x l ≤ votes z l := by
  unfold votes
  exact List.countP_mono_left (fun v _ hv => by simpa using h v (by simpa using hv))

theorem half_mono (x z l : List Int) (h : ∀ v ∈ x, v ∈ z) (hx : half l x = true) : half l z = true := by
  have := votes_mono x z l h
  unfold half at *
  simp only [decide_eq_true_eq] at *
  omega

theorem quorum_mono (a b x z : List Int) (h : ∀ v ∈ x, v ∈ z) (hx : quorum a b x = true) : quorum a b z = true := by
  unfold quorum at *
  simp only [Bool.and_eq_true, Bool.or_eq_true] at *
  exact ⟨half_mono x z b h hx.1, hx.2.imp id (half_mono x z a h)⟩

theorem votes_all (x l : List Int) (h : ∀ v ∈ l, v ∈ x) : votes x l = l.length := by
  unfold votes
  exact List.countP_eq_length.2 (fun v hv => by simpa using h v hv)

theorem half_all (x l : List Int) (h : ∀ v ∈ l, v ∈ x) (hl : l ≠ []) : half l x = true := by
  have h0 : 0 < l.length := List.length_pos_iff.mpr hl
  unfold half
  rw [votes_all x l h]
  simp only [decide_eq_true_eq]
  omega

theorem quorum_all (a b x : List Int) (ha : ∀ v ∈ a, v ∈ x) (hb : ∀ v ∈ b, v ∈ x) (h : b ≠ []) : quorum a b x = true := by
  unfold quorum
  rw [half_all x b hb h]
  by_cases e : a = []
  · simp [e]
  · rw [half_all x a ha e]; simp

theorem votes_take (l : List Int) (hl : l.Nodup) (n : Nat) (hn : n ≤ l.length) : votes (l.take n) l = n := by
  have hd : l = l.take n ++ l.drop n := (List.take_append_drop n l).symm
  have h1 : votes (l.take n) (l.take n) = n := by
    rw [votes_all _ _ (fun _ h => h)]
    simp; omega
  have h2 : votes (l.take n) (l.drop n) = 0 := by
    unfold votes
    refine List.countP_eq_zero.2 (fun v hv => ?_)
    rw [hd, List.nodup_append] at hl
    simp only [decide_eq_true_eq]
    exact fun hm => hl.2.2 v hm v hv rfl
  have h3 : votes (l.take n) l = votes (l.take n) (l.take n) + votes (l.take n) (l.drop n) := by
    unfold votes
    rw [← List.countP_append, List.take_append_drop]
  omega

theorem more_j (a b : List Int) (ha : a.length ≤ 7) (hb0 : 1 ≤ b.length) (hb1 : b.length ≤ 7) (hb : rises (-1) b = true) (k : Nat) (hk : 100 ≤ k) :
    synodallaw8_ConfMore.j0 (k + 1) false a b = some true := by
  have hn := rises_nodup _ b hb
  have w1 : wrap64 ((b.length : Int) / 2) = ((b.length / 2 : Nat) : Int) := by rw [wrap_small (by omega) (by omega)]; omega
  have w2 : wrap64 (((b.length / 2 : Nat) : Int) + 1) = ((b.length / 2 + 1 : Nat) : Int) := by rw [wrap_small (by omega) (by omega)]; omega
  have v1 := votes_take b hn (b.length / 2) (by omega)
  have v2 := votes_take b hn (b.length / 2 + 1) (by omega)
  have h1 : half b (b.take (b.length / 2)) = false := by
    unfold half
    rw [v1]
    exact decide_eq_false (by omega)
  have h2 : half b (b.take (b.length / 2 + 1)) = true := by
    unfold half
    rw [v2]
    exact decide_eq_true (by omega)
  simp only [synodallaw8_ConfMore.j0, w1, w2, Int.toNat_natCast]
  rw [if_neg (by decide), if_pos (by omega), if_pos (by omega), quorum_f a b _ (by omega) (by omega) (by simp; omega) k (by simp; omega)]
  simp only [Option.bind_some]
  rw [if_neg (by unfold quorum; rw [h1]; simp)]
  unfold conf_Joint.f
  simp only [Option.bind_some]
  by_cases e : a = []
  · subst e
    rw [if_neg (by simp), if_pos (by omega), if_pos (by omega), quorum_f [] b _ (by simp) (by omega) (by simp; omega) k (by simp; omega)]
    simp only [Option.bind_some]
    unfold quorum
    rw [h2]
    simp
  · have : 0 < a.length := List.length_pos_iff.mpr e
    rw [if_pos (by simp; omega)]

theorem more_end (J : Bool → List Int → List Int → Option Bool) (a b : List Int) (qx qz : Bool) (hj : J false a b = some true) (h : qx = true → qz = true) :
    (some qx).bind (fun t276 => if t276 = true then ((some qz).bind fun t277 => (if t277 = true then ((some true).bind fun t281 => (if t281 = true then ((some false).bind fun t282 => (J t282 a b)) else (J true a b))) else (J true a b)))
      else ((some true).bind fun t286 => (if t286 = true then ((some false).bind fun t287 => (J t287 a b)) else (J true a b)))) = some true := by
  cases qx
  · simpa using hj
  · rw [h rfl]
    simpa using hj

theorem more_f (a0 a1 a2 a3 : Int) : ∃ k, synodallaw8_ConfMore.f k a0 a1 a2 a3 = some true := by
  obtain ⟨a, b, hg, ha, hb0, hb1, har, hbr⟩ := good_f a0 a1
  obtain ⟨x, hx, hxl⟩ := all_f a2
  obtain ⟨y, hy, hyl⟩ := all_f a3
  have hbn : b ≠ [] := by rintro rfl; simp at hb0
  have hml := members_le a b
  obtain ⟨K, hK⟩ : ∃ K, 10000 ≤ K := ⟨10000, Nat.le_refl _⟩
  refine ⟨K + 1, ?_⟩
  have hj := more_j a b ha hb0 hb1 hbr K (by omega)
  have hq0 : quorum a b [] = false := by
    unfold quorum half votes
    rw [show decide (2 * ((List.countP (fun x => decide (x ∈ ([] : List Int))) b : Nat) : Int) > (b.length : Int)) = false from decide_eq_false (by
      rw [List.countP_eq_zero.2 (by simp)]; omega)]
    simp
  have hqm : quorum a b (Mem.members a b) = true := quorum_all a b _ (fun v h => mem_members a b v (.inl h)) (fun v h => mem_members a b v (.inr h)) hbn
  unfold synodallaw8_ConfMore.f
  rw [known_f (K + 1) (by omega), hg (K + 1) (by omega), hx (K + 1) (by omega), hy (K + 1) (by omega)]
  simp only [Option.bind_some, if_true, List.nil_append, List.length_nil, Nat.zero_add]
  have hm : conf_Members.f a b = some (Mem.members a b) := by
    unfold conf_Members.f
    rw [if_pos (by omega), if_pos (by omega)]
  rw [if_pos (by omega), if_pos (by omega), hm]
  simp only [Option.bind_some]
  rw [quorum_f a b x (by omega) (by omega) (by omega) (K + 1) (by omega), quorum_f a b (x ++ y) (by omega) (by omega) (by simp; omega) (K + 1) (by simp; omega),
    quorum_f a b (Mem.members a b) (by omega) (by omega) (by omega) (K + 1) (by omega), quorum_f a b [] (by omega) (by omega) (by simp) (K + 1) (by simp; omega)]
  have hmono := quorum_mono a b x (x ++ y) (fun v h => List.mem_append.2 (.inl h))
  generalize synodallaw8_ConfMore.j0 (K + 1) = J at hj ⊢
  generalize quorum a b (Mem.members a b) = qm at hqm ⊢
  generalize quorum a b [] = q0 at hq0 ⊢
  generalize quorum a b (x ++ y) = qz at hmono ⊢
  generalize quorum a b x = qx at hmono ⊢
  subst hqm
  subst hq0
  exact more_end J a b qx qz hj hmono
end CP
theorem ConfMore_walk (a0 a1 a2 a3 : Int) (W : World) (_w0 : (Lit.int .i64 a0).wf = true) (_w1 : (Lit.int .i64 a1).wf = true) (_w2 : (Lit.int .i64 a2).wf = true) (_w3 : (Lit.int .i64 a3).wf = true) :
    Calls Try.prog 11 #[.int .i64 a0, .int .i64 a1, .int .i64 a2, .int .i64 a3] W fun e w' => e = .returned (.bool true) ∧ Below W.heap.size W w' := by
  obtain ⟨k, h⟩ := CP.more_f a0 a1 a2 a3
  exact synodallaw8_ConfMore.calls k a0 a1 a2 a3 true W h

end Go.Proofs.Ytimeknpdgloenaa.Pure
