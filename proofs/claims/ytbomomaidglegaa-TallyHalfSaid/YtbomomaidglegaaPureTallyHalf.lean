/- More than half have come so far, no more than half beyond. -/
import Derived.Test.YtbomomaidglegaaXTallyHalfx2
namespace Go.Proofs.Ytbomomaidglegaa.Pure
open Go.RowKit Go.Proofs.Ytbomomaidglegaa.XTallyHalf Go.Proofs.YtbomomaidglegaaW.PrintWords Go.Proofs.YtbomomaidglegaaW.PrintLast Go.Proofs.YtbomomaidglegaaW.PrintMore

namespace CP
/-- Members that rise, from behind b on, and that there are. -/
def rises : Int → List Int → Bool
  | _, [] => true
  | b, x :: l => decide (b < x) && decide (x < 9) && rises x l

theorem rises_snoc (b x : Int) (l : List Int) (h : rises b l = true) (hb : b < x) (hx : x < 9) (hl : ∀ y ∈ l, y < x) : rises b (l ++ [x]) = true := by
  induction l generalizing b with
  | nil => simp [rises, hb, hx]
  | cons y l ih =>
    simp only [rises, Bool.and_eq_true, decide_eq_true_eq] at h
    simp only [List.cons_append, rises, Bool.and_eq_true, decide_eq_true_eq]
    exact ⟨h.1, ih y h.2 (hl y (by simp)) (fun z hz => hl z (by simp [hz]))⟩

theorem rises_mem (b : Int) (l : List Int) (h : rises b l = true) : ∀ x ∈ l, b < x ∧ x < 9 := by
  induction l generalizing b with
  | nil => simp
  | cons y l ih =>
    simp only [rises, Bool.and_eq_true, decide_eq_true_eq] at h
    intro x hx
    rcases List.mem_cons.1 hx with rfl | hx
    · exact h.1
    · have := ih y h.2 x hx
      omega

theorem rises_nodup (b : Int) (l : List Int) (h : rises b l = true) : l.Nodup := by
  induction l generalizing b with
  | nil => simp
  | cons y l ih =>
    simp only [rises, Bool.and_eq_true, decide_eq_true_eq] at h
    refine List.nodup_cons.2 ⟨fun hm => ?_, ih y h.2⟩
    have := rises_mem y l h.2 y hm
    omega

theorem list_l (bits : Int) (d : Nat) : ∀ (i : Int) (out : List Int), 0 ≤ i → i ≤ 9 → 9 - i = d → out.length ≤ 7 → rises (-1) out = true → (∀ x ∈ out, x < i) →
    ∃ r, (∀ k, 2 * d + 1 < k → synodallaw8_List.l0 k bits out i = some r) ∧ r.length ≤ 7 ∧ rises (-1) r = true := by
  induction d with
  | zero =>
    intro i out h0 h1 hd ho hr hm
    refine ⟨out, fun k hk => ?_, by omega, hr⟩
    obtain ⟨k, rfl⟩ : ∃ m, k = m + 2 := ⟨k - 2, by omega⟩
    simp only [synodallaw8_List.l0]; rw [if_neg (by omega)]; simp [synodallaw8_List.j1]
  | succ d ih =>
    intro i out h0 h1 hd ho hr hm
    by_cases e : (out.length : Int) < 7
    · by_cases b : Go.bits .and .i64 (shr .i64 bits i) 1 = 1
      · obtain ⟨r, h, hl⟩ := ih (i + 1) (out ++ [i]) (by omega) (by omega) (by omega) (by simp; omega) (rises_snoc _ _ _ hr (by omega) (by omega) hm) (by
          intro x hx
          rcases List.mem_append.1 hx with hx | hx
          · have := hm x hx; omega
          · simp at hx; omega)
        refine ⟨r, fun k hk => ?_, hl⟩
        obtain ⟨k, rfl⟩ : ∃ m, k = m + 2 := ⟨k - 2, by omega⟩
        simp only [synodallaw8_List.l0]; rw [if_pos (by omega)]; simp only [synodallaw8_List.j1]
        rw [CP.wrap_small (by omega) (by omega), if_pos (by simpa using e), if_pos h0, if_pos b, if_pos (by omega)]
        exact h k (by omega)
      · obtain ⟨r, h, hl⟩ := ih (i + 1) out (by omega) (by omega) (by omega) ho hr (fun x hx => by have := hm x hx; omega)
        refine ⟨r, fun k hk => ?_, hl⟩
        obtain ⟨k, rfl⟩ : ∃ m, k = m + 2 := ⟨k - 2, by omega⟩
        simp only [synodallaw8_List.l0]; rw [if_pos (by omega)]; simp only [synodallaw8_List.j1]
        rw [CP.wrap_small (by omega) (by omega), if_pos (by simpa using e), if_pos h0, if_neg b]
        exact h k (by omega)
    · refine ⟨out, fun k hk => ?_, ho, hr⟩
      obtain ⟨k, rfl⟩ : ∃ m, k = m + 2 := ⟨k - 2, by omega⟩
      simp only [synodallaw8_List.l0]; rw [if_pos (by omega)]; simp only [synodallaw8_List.j1]
      rw [if_neg (by simpa using e)]

theorem list_f (bits : Int) : ∃ r, (∀ k, 20 ≤ k → synodallaw8_List.f k bits = some r) ∧ r.length ≤ 7 ∧ rises (-1) r = true := by
  obtain ⟨r, h, hl, hr⟩ := list_l bits 9 0 [] (by omega) (by omega) (by omega) (by simp) rfl (by simp)
  exact ⟨r, fun k hk => h k (by omega), hl, hr⟩

theorem plain_f (bits : Int) : ∃ r, (∀ k, 20 ≤ k → synodallaw8_Plain.f k bits = some ([], r)) ∧ 1 ≤ r.length ∧ r.length ≤ 7 ∧ rises (-1) r = true := by
  obtain ⟨r, hr, h, hs⟩ := list_f bits
  by_cases e : (r.length : Int) = 0
  · refine ⟨[0], fun k hk => ?_, by simp, by simp, by decide⟩
    unfold synodallaw8_Plain.f
    rw [hr k hk]
    simp only [Option.bind_some]
    rw [if_pos e]
  · refine ⟨r, fun k hk => ?_, by omega, h, hs⟩
    unfold synodallaw8_Plain.f
    rw [hr k hk]
    simp only [Option.bind_some]
    rw [if_neg e]
end CP

namespace TP
open Go.Proofs.Ytbomomaidglegaa.Reach
theorem wrap_small {x : Int} (h0 : -1000000000000000000 ≤ x) (h : x ≤ 1000000000000000000) : wrap64 x = x := by
  unfold wrap64
  omega
theorem half_mono (x z l : List Int) (h : ∀ v ∈ x, v ∈ z) (hx : CP.half l x = true) : CP.half l z = true := by
  have : CP.votes x l ≤ CP.votes z l := by
    unfold CP.votes
    exact List.countP_mono_left (fun v _ hv => by simpa using h v (by simpa using hv))
  unfold CP.half at *
  simp only [decide_eq_true_eq] at *
  omega
theorem quorum_mono (a b x z : List Int) (h : ∀ v ∈ x, v ∈ z) (hx : CP.quorum a b x = true) : CP.quorum a b z = true := by
  unfold CP.quorum at *
  simp only [Bool.and_eq_true, Bool.or_eq_true] at *
  exact ⟨half_mono x z b h hx.1, hx.2.imp id (half_mono x z a h)⟩

/-- Among those that have come to b somebody has come least far. -/
theorem least (m : List (Int × Int)) (b : Int) : ∀ l : List Int, (∃ x ∈ l, b ≤ upto m x) → ∃ y ∈ l, b ≤ upto m y ∧ ∀ z ∈ l, b ≤ upto m z → upto m y ≤ upto m z := by
  intro l
  induction l with
  | nil => rintro ⟨x, hx, _⟩; cases hx
  | cons a l ih =>
    intro h
    by_cases hl : ∃ x ∈ l, b ≤ upto m x
    · obtain ⟨y, hy, hb, hmin⟩ := ih hl
      by_cases ha : b ≤ upto m a ∧ upto m a ≤ upto m y
      · refine ⟨a, by simp, ha.1, fun z hz hbz => ?_⟩
        rcases List.mem_cons.1 hz with rfl | hz
        · exact Int.le_refl _
        · exact Int.le_trans ha.2 (hmin z hz hbz)
      · refine ⟨y, by simp [hy], hb, fun z hz hbz => ?_⟩
        rcases List.mem_cons.1 hz with rfl | hz
        · omega
        · exact hmin z hz hbz
    · obtain ⟨x, hx, hbx⟩ := h
      rcases List.mem_cons.1 hx with rfl | hx
      · refine ⟨x, by simp, hbx, fun z hz hbz => ?_⟩
        rcases List.mem_cons.1 hz with rfl | hz
        · exact Int.le_refl _
        · exact absurd ⟨z, hz, hbz⟩ hl
      · exact absurd ⟨x, hx, hbx⟩ hl

/-- Whoever has a quorum at b is beaten by no greater answer. -/
theorem reach_ge (Qm : List Int → Bool) (hQ : ∀ ys ys' : List Int, (∀ x ∈ ys, x ∈ ys') → Qm ys = true → Qm ys' = true) (m : List (Int × Int)) (b : Int) (h : Qm (yes m b) = true) (hx : ∃ x ∈ ids m, b ≤ upto m x) : b ≤ reach Qm m := by
  obtain ⟨y, hy, hb, hmin⟩ := least m b (ids m) hx
  have := (best_reach Qm m).2.2 y hy rfl (hQ _ _ (fun z hz => by
    rw [mem_yes] at hz ⊢
    exact ⟨hz.1, hmin z hz.1 hz.2⟩) h)
  omega

theorem reach_mono (Qm : List Int → Bool) (hQ : ∀ ys ys' : List Int, (∀ x ∈ ys, x ∈ ys') → Qm ys = true → Qm ys' = true) (m m' : List (Int × Int)) (hi : ∀ x ∈ ids m, x ∈ ids m' ∧ upto m x ≤ upto m' x) : reach Qm m ≤ reach Qm m' := by
  have hB := best_reach Qm m
  rcases hB.2.1 with h0 | ⟨x, hx, _, hq, hb⟩
  · have := (best_reach Qm m').1; omega
  · rw [hb]
    refine reach_ge Qm hQ m' _ (hQ (yes m (upto m x)) _ (fun z hz => ?_) hq) ⟨x, (hi x hx).1, (hi x hx).2⟩
    rw [mem_yes] at hz ⊢
    have := hi z hz.1
    exact ⟨this.1, by omega⟩

theorem known_f : synodallaw9_known.f = some true := by
  unfold synodallaw9_known.f tally_Reach.f
  rw [if_pos (by decide)]
  decide

theorem reach_f (a b : List Int) (l : List S29) (ha : a.length < 1000000) (hb : b.length < 1000000) (hl : l.length < 1000000) (hw : ∀ p ∈ marks l, (Lit.int .i64 p.1).wf = true ∧ (Lit.int .i64 p.2).wf = true) : tally_Reach.f a b l = some (reach (CP.quorum a b) (marks l)) := by
  unfold tally_Reach.f
  rw [if_pos ⟨ha, hb, hl, hw⟩]
end TP
namespace TP
open Go.Proofs.Ytbomomaidglegaa.Reach
theorem rd_at (l : List S29) (i : Nat) (h : i < l.length) : rd_T29 l (i : Int) = l[i] := by simp [rd_T29, List.getD, h]

theorem marks_take (l : List S29) (i : Nat) (h : i < l.length) : (marks l).take (i + 1) = (marks l).take i ++ [((l[i]).f0, (l[i]).f1)] := by
  have hm : i < (marks l).length := by simpa [marks] using h
  rw [List.take_succ_eq_append_getElem hm]
  simp [marks]
end TP

namespace CP
/-- The document's look at one list, index by index, is 'rises'. -/
theorem one_l (l : List Int) (hl : l.length ≤ 1000) (d : Nat) : ∀ (k i : Nat) (b : Int), i ≤ l.length → l.length - i = d → 2 * d + 1 < k → (i = 0 ∧ b = -1 ∨ ∃ (_h : 0 < i) (_h2 : i - 1 < l.length), b = l[i - 1] ∧ 0 ≤ b) →
    synodalref8_one.l0 k l (i : Int) = some (if rises b (l.drop i) = false then 1 else 0) := by
  induction d with
  | zero =>
    intro k i b h1 h2 hk hb
    obtain ⟨k, rfl⟩ : ∃ m, k = m + 1 := ⟨k - 1, by omega⟩
    have : l.drop i = [] := List.drop_eq_nil_of_le (by omega)
    simp only [synodalref8_one.l0]; rw [if_neg (by omega), this]
    simp [rises]
  | succ d ih =>
    intro k i b h1 h2 hk hb
    obtain ⟨k, rfl⟩ : ∃ m, k = m + 2 := ⟨k - 2, by omega⟩
    have hlt : i < l.length := by omega
    have q2 : l.length - (i + 1) = d := by clear hb; omega
    have q3 : 2 * d + 1 < k + 1 := by clear hb; omega
    simp only [synodalref8_one.l0]
    rw [if_pos (by clear hb; omega), if_pos (by clear hb; omega), CP.rd_at l i hlt, List.drop_eq_getElem_cons hlt]
    by_cases h3 : l[i] < 0
    · rw [if_pos h3, if_pos (by
        simp only [rises]
        rcases hb with ⟨rfl, rfl⟩ | ⟨_, _, rfl, _⟩ <;> simp <;> omega)]
      simp [synodalref8_one.j1]
    · rw [if_neg h3]
      by_cases h4 : l[i] ≥ 9
      · rw [if_pos h4, if_pos (by simp [rises]; omega)]
        simp [synodalref8_one.j1]
      · rw [if_neg h4]
        have go : ∀ (c : Bool), (c = true ↔ l[i] ≤ b) → synodalref8_one.j1 (k + 1) l (i : Int) c = some (if rises b (l[i] :: l.drop (i + 1)) = false then 1 else 0) := by
          intro c hc
          simp only [synodalref8_one.j1]
          by_cases h5 : l[i] ≤ b
          · rw [if_pos (hc.2 h5), if_pos (by simp [rises]; omega)]
          · rw [if_neg (fun h => h5 (hc.1 h)), CP.wrap_next i (by omega), ih k (i + 1) l[i] hlt q2 (by clear hb; omega) (.inr ⟨Nat.succ_pos i, hlt, rfl, by clear hb; omega⟩)]
            have : rises b (l[i] :: l.drop (i + 1)) = rises l[i] (l.drop (i + 1)) := by
              have e1 : decide (b < l[i]) = true := by simp; omega
              have e2 : decide (l[i] < 9) = true := by simp; omega
              simp only [rises, e1, e2, Bool.true_and]
            rw [this]
        rcases hb with ⟨rfl, rfl⟩ | ⟨hi, h2, hbb, hb0⟩
        · rw [if_neg (by omega)]
          exact go false (by simp; omega)
        · have hw : wrap64 ((i : Int) - 1) = ((i - 1 : Nat) : Int) := by rw [CP.wrap_small (by omega) (by omega)]; omega
          rw [if_pos (by omega), hw, if_pos (by omega), if_pos (by omega), CP.rd_at l (i - 1) h2, ← hbb]
          exact go _ (by simp)

theorem one_f (l : List Int) (hl : l.length ≤ 1000) (k : Nat) (hk : 2 * l.length + 1 < k) : synodalref8_one.f k l = some (if 7 < l.length then 4 else if rises (-1) l = false then 1 else 0) := by
  unfold synodalref8_one.f
  by_cases h : (l.length : Int) > 7
  · rw [if_pos h, if_pos (by omega)]
  · rw [if_neg h, if_neg (by omega)]
    have := one_l l hl l.length k 0 (-1) (by omega) (by omega) hk (.inl ⟨rfl, rfl⟩)
    rw [List.drop_zero] at this
    exact this
end CP
namespace TP
open Go.Proofs.Ytbomomaidglegaa.Reach
theorem within_f (a : Int) : ∃ v, synodallaw9_within.f a 1000 = some v ∧ 0 ≤ v ∧ v < 1000 := by
  have h1 : Int.tmod a 1000 < 1000 := Int.tmod_lt_of_pos a (by omega)
  have h2 : -1000 < Int.tmod a 1000 := by
    have := Int.tmod_lt_of_pos (-a) (show (0 : Int) < 1000 by omega)
    rw [Int.neg_tmod] at this
    omega
  unfold synodallaw9_within.f
  rw [if_neg (by decide)]
  generalize Int.tmod a 1000 = t at h1 h2 ⊢
  by_cases h : t < 0
  · rw [if_pos h, wrap_small (by omega) (by omega)]
    exact ⟨_, rfl, by omega, by omega⟩
  · rw [if_neg h]
    exact ⟨_, rfl, by omega, h1⟩

theorem upto_nodup (m : List (Int × Int)) : (ids m).Nodup → ∀ p ∈ m, upto m p.1 = p.2 := by
  induction m using snoc_ind with
  | h0 => intro _ p hp; cases hp
  | h1 l q ih =>
    intro hn p hp
    rw [ids_snoc, List.nodup_append] at hn
    rw [upto_snoc]
    rcases List.mem_append.1 hp with hp | hp
    · have hne : q.1 ≠ p.1 := fun e => hn.2.2 p.1 (List.mem_map.2 ⟨p, hp, rfl⟩) q.1 (by simp) e.symm
      rw [if_neg hne]
      exact ih hn.1 p hp
    · simp only [List.mem_singleton] at hp
      subst hp
      rw [if_pos rfl]

/-- How many have come to an index. -/
def cnt (L : List S29) (n : Int) : Nat := L.countP (fun x => decide (n ≤ x.f1))

theorem cnt_votes (L : List S29) (b : List Int) (n : Int) (hb : L.map (·.f0) = b) (hn : b.Nodup) : CP.votes (yes (marks L) n) b = cnt L n := by
  have hi : ids (marks L) = b := by rw [← hb]; simp [ids, marks]
  unfold CP.votes cnt
  rw [← hb, List.countP_map]
  refine List.countP_congr (fun x hx => ?_)
  have hm : (x.f0, x.f1) ∈ marks L := List.mem_map.2 ⟨x, hx, rfl⟩
  have hu := upto_nodup (marks L) (by rw [hi]; exact hn) _ hm
  simp only [Function.comp, decide_eq_true_eq, mem_yes] at *
  rw [hu]
  exact ⟨fun h => h.2, fun h => ⟨List.mem_map.2 ⟨_, hm, rfl⟩, h⟩⟩

theorem quorum_cnt (L : List S29) (b : List Int) (n : Int) (hb : L.map (·.f0) = b) (hn : b.Nodup) : CP.quorum [] b (yes (marks L) n) = true ↔ 2 * cnt L n > b.length := by
  unfold CP.quorum CP.half
  rw [cnt_votes L b _ hb hn]
  simp only [decide_true, Bool.true_or, Bool.and_true, decide_eq_true_eq]
  omega

theorem cnt_ge (L : List S29) (b : List Int) (hb : L.map (·.f0) = b) (hn : b.Nodup) (h1 : 1 ≤ b.length) (h0 : ∀ x ∈ L, 0 ≤ x.f1) : 2 * cnt L (reach (CP.quorum [] b) (marks L)) > b.length := by
  have hL : L.length = b.length := by rw [← hb]; simp
  have hB := best_reach (CP.quorum [] b) (marks L)
  rcases hB.2.1 with e | ⟨x, hx, _, hq, e⟩
  · rw [e]
    have : cnt L 0 = L.length := List.countP_eq_length.2 (fun x hx => by simpa using h0 x hx)
    rw [this, hL]
    omega
  · rw [← e] at hq
    exact (quorum_cnt L b _ hb hn).1 hq

theorem cnt_gt (L : List S29) (b : List Int) (hb : L.map (·.f0) = b) (hn : b.Nodup) : 2 * cnt L (reach (CP.quorum [] b) (marks L) + 1) ≤ b.length := by
  apply Nat.le_of_not_lt
  intro h
  have hi : ids (marks L) = b := by rw [← hb]; simp [ids, marks]
  have hq := (quorum_cnt L b _ hb hn).2 h
  have hpos : 0 < cnt L (reach (CP.quorum [] b) (marks L) + 1) := by
    generalize cnt L (reach (CP.quorum [] b) (marks L) + 1) = c at h
    clear hq
    omega
  obtain ⟨x, hx, hxn⟩ := List.countP_pos_iff.1 hpos
  have hm : (x.f0, x.f1) ∈ marks L := List.mem_map.2 ⟨x, hx, rfl⟩
  have hu := upto_nodup (marks L) (by rw [hi]; exact hn) _ hm
  have hge := reach_ge (CP.quorum [] b) (fun ys ys' h => quorum_mono [] b ys ys' h) (marks L) _ hq ⟨x.f0, List.mem_map.2 ⟨_, hm, rfl⟩, by rw [hu]; simpa using hxn⟩
  exact absurd hge (by generalize reach (CP.quorum [] b) (marks L) = r; omega)

theorem cnt_drop (L : List S29) (n : Int) (i : Nat) (h : i < L.length) : cnt (L.drop i) n = (if n ≤ (L[i]).f1 then 1 else 0) + cnt (L.drop (i + 1)) n := by
  unfold cnt
  rw [List.drop_eq_getElem_cons h, List.countP_cons]
  by_cases e : n ≤ (L[i]).f1 <;> simp [e]
  omega

theorem half_l (L : List S29) (n : Int) (b : List Int) (hb0 : 1 ≤ b.length) (hb1 : b.length ≤ 7) (hbr : CP.rises (-1) b = true) (hL : L.length = b.length) (d : Nat) :
    ∀ (k i : Nat) (at_ ov : Int), i ≤ L.length → L.length - i = d → d + 40 < k → 0 ≤ at_ → at_ ≤ i → 0 ≤ ov → ov ≤ i →
      2 * (at_ + cnt (L.drop i) n) > (b.length : Int) → 2 * (ov + cnt (L.drop i) (n + 1)) ≤ (b.length : Int) →
      synodallaw9_TallyHalf.l1 k L n at_ ov (i : Int) [] b = some true := by
  induction d with
  | zero =>
    intro k i at_ ov h1 h2 hk h3 h4 h5 h6 h7 h8
    obtain ⟨k, rfl⟩ : ∃ m, k = m + 1 := ⟨k - 1, by omega⟩
    have e : L.drop i = [] := List.drop_eq_nil_of_le (by omega)
    rw [e] at h7 h8
    have e1 : cnt [] n = 0 := rfl
    have e2 : cnt [] (n + 1) = 0 := rfl
    rw [e1] at h7
    rw [e2] at h8
    simp only [synodallaw9_TallyHalf.l1]
    rw [if_neg (by omega), wrap_small (by omega) (by omega), wrap_small (by omega) (by omega), if_pos (by omega), if_pos (by omega)]
    have hc : synodalref8_Check.f k [] b = some 0 := by
      clear h7 h8
      unfold synodalref8_Check.f
      rw [CP.one_f [] (by simp) k (by simp; omega), CP.one_f b (by omega) k (by omega)]
      have h7' : ¬ 7 < b.length := by omega
      have hbn : ¬ b.length = 0 := by omega
      have hbe : b ≠ [] := fun e => by rw [e] at hbn; exact hbn rfl
      simp [CP.rises, hbr, h7', hbe]
    rw [hc]
    rfl
  | succ d ih =>
    intro k i at_ ov h1 h2 hk h3 h4 h5 h6 h7 h8
    obtain ⟨k, rfl⟩ : ∃ m, k = m + 1 := ⟨k - 1, by omega⟩
    have hlt : i < L.length := by omega
    rw [cnt_drop L n i hlt] at h7
    rw [cnt_drop L (n + 1) i hlt] at h8
    have hi7 : i < 7 := by clear h7 h8 ih; omega
    have hw1 : wrap64 ((i : Int) + 1) = ((i + 1 : Nat) : Int) := CP.wrap_next i (by clear h7 h8 ih; omega)
    have hwa : wrap64 (at_ + 1) = at_ + 1 := wrap_small (by clear h7 h8 ih; omega) (by clear h7 h8 ih; omega)
    have hwo : wrap64 (ov + 1) = ov + 1 := wrap_small (by clear h7 h8 ih; omega) (by clear h7 h8 ih; omega)
    simp only [synodallaw9_TallyHalf.l1]
    rw [if_pos (by clear h7 h8; omega), if_pos (by clear h7 h8; omega), rd_at L i hlt, hw1, hwa, hwo]
    have ih' := fun a o g1 g2 g3 g4 g5 g6 => ih k (i + 1) a o hlt (by clear h7 h8; omega) (by clear h7 h8; omega) g1 g2 g3 g4 g5 g6
    clear ih hw1 hwa hwo
    generalize (L[i]).f1 = y at h7 h8 ⊢
    generalize cnt (L.drop (i + 1)) n = p at h7 ih'
    generalize cnt (L.drop (i + 1)) (n + 1) = q at h8 ih'
    by_cases g1 : y ≥ n
    · rw [if_pos g1]
      rw [if_pos (show n ≤ y from g1)] at h7
      by_cases g2 : y > n
      · rw [if_pos g2]
        rw [if_pos (show n + 1 ≤ y from g2)] at h8
        exact ih' _ _ (by clear ih'; omega) (by clear ih'; omega) (by clear ih'; omega) (by clear ih'; omega) (by clear ih'; omega) (by clear ih'; omega)
      · rw [if_neg g2]
        rw [if_neg (show ¬ n + 1 ≤ y from g2)] at h8
        exact ih' _ _ (by clear ih'; omega) (by clear ih'; omega) (by clear ih'; omega) (by clear ih'; omega) (by clear ih'; omega) (by clear ih'; omega)
    · rw [if_neg g1, if_neg (show ¬ y > n by clear ih' h7 h8; omega)]
      rw [if_neg (show ¬ n ≤ y from g1)] at h7
      rw [if_neg (show ¬ n + 1 ≤ y by clear ih' h7 h8; omega)] at h8
      exact ih' _ _ (by clear ih'; omega) (by clear ih'; omega) (by clear ih'; omega) (by clear ih'; omega) (by clear ih'; omega) (by clear ih'; omega)

theorem fill_l (ms b : List Int) (hb0 : 1 ≤ b.length) (hb1 : b.length ≤ 7) (hbr : CP.rises (-1) b = true) (d : Nat) :
    ∀ (k i : Nat) (L : List S29), i ≤ b.length → b.length - i = d → d + 100 < k → L.map (·.f0) = b.take i → (∀ x ∈ L, 0 ≤ x.f1 ∧ x.f1 < 1000) →
      synodallaw9_TallyHalf.l0 k ms L (i : Int) [] b = some true := by
  have hnd := CP.rises_nodup _ b hbr
  induction d with
  | zero =>
    intro k i L h1 h2 hk hL hx
    obtain ⟨k, rfl⟩ : ∃ m, k = m + 1 := ⟨k - 1, by omega⟩
    have e : b.take i = b := List.take_of_length_le (by omega)
    rw [e] at hL
    have hlen : L.length = b.length := by rw [← hL]; simp
    simp only [synodallaw9_TallyHalf.l0]
    rw [if_neg (by omega), reach_f [] b L (by simp) (by omega) (by omega) (by
      intro p hp
      simp only [marks, List.mem_map] at hp
      obtain ⟨x, hxm, rfl⟩ := hp
      have hb := CP.rises_mem _ b hbr x.f0 (by rw [← hL]; exact List.mem_map.2 ⟨x, hxm, rfl⟩)
      have := hx x hxm
      exact ⟨WalkArith.wf_i64 (by omega), WalkArith.wf_i64 (by omega)⟩)]
    simp only [Option.bind_some]
    have g1 := cnt_ge L b hL hnd hb0 (fun x hxm => (hx x hxm).1)
    have g2 := cnt_gt L b hL hnd
    generalize reach (CP.quorum [] b) (marks L) = n at g1 g2 ⊢
    refine half_l L n b hb0 hb1 hbr hlen L.length k 0 0 0 (by omega) (by omega) (by omega) (by omega) (by omega) (by omega) (by omega) ?_ ?_
    · rw [List.drop_zero]; omega
    · rw [List.drop_zero]; omega
  | succ d ih =>
    intro k i L h1 h2 hk hL hx
    obtain ⟨k, rfl⟩ : ∃ m, k = m + 1 := ⟨k - 1, by omega⟩
    have hlt : i < b.length := by omega
    have hlen : L.length = i := by
      have := congrArg List.length hL
      simp at this
      omega
    have hw1 : wrap64 ((i : Int) + 1) = ((i + 1 : Nat) : Int) := by rw [wrap_small (by omega) (by omega)]; rfl
    have hnext : ∀ v : Int, 0 ≤ v → v < 1000 → synodallaw9_TallyHalf.l0 k ms (L ++ [(⟨b[i], v⟩ : S29)]) ((i + 1 : Nat) : Int) [] b = some true := by
      intro v v0 v1
      refine ih k (i + 1) _ (by omega) (by omega) (by omega) ?_ ?_
      · rw [List.map_append, hL, List.take_succ_eq_append_getElem hlt]; rfl
      · intro x hxm
        rcases List.mem_append.1 hxm with hxm | hxm
        · exact hx x hxm
        · simp only [List.mem_singleton] at hxm
          subst hxm
          exact ⟨v0, v1⟩
    simp only [synodallaw9_TallyHalf.l0]
    rw [if_pos (by omega), CP.rd_at b i hlt, hw1]
    by_cases g : (i : Int) < (ms.length : Int)
    · obtain ⟨v, hv, v0, v1⟩ := within_f (rd ms (i : Int))
      rw [if_pos g, if_pos (by omega), hv]
      simp only [Option.bind_some]
      rw [if_pos (by omega)]
      exact hnext v v0 v1
    · rw [if_neg g, if_pos (by omega), if_pos (by omega)]
      exact hnext 0 (by omega) (by omega)

theorem half_f (a0 : Int) (ms : List Int) : ∃ k, synodallaw9_TallyHalf.f k a0 ms = some true := by
  obtain ⟨b, hb, hb0, hb1, hbr⟩ := CP.plain_f a0
  obtain ⟨K, hK⟩ : ∃ K, 10000 ≤ K := ⟨10000, Nat.le_refl _⟩
  refine ⟨K, ?_⟩
  unfold synodallaw9_TallyHalf.f
  rw [known_f, hb K (by omega)]
  simp only [Option.bind_some, if_true]
  exact fill_l ms b hb0 hb1 hbr b.length K 0 [] (by omega) (by omega) (by omega) rfl (fun x hx => by cases hx)
end TP
theorem TallyHalf_walk (a0 : Int) (A1 : Option Addr) (c1 : Nat) (l1 : List Int) (W : World) (_w0 : (Lit.int .i64 a0).wf = true)
    (hC : Kd.C (Kd.int .i64) W A1 l1.length l1) (hc : l1.length ≤ c1) (_hm : l1.length ≤ maxLen) (_ho : ∀ a ∈ l1, (Lit.int .i64 a).wf = true) :
    Calls Try.prog 4 #[.int .i64 a0, .slice A1 l1.length c1] W fun e w' => e = .returned (.bool true) ∧ Below W.heap.size W w' := by
  obtain ⟨k, h⟩ := TP.half_f a0 l1
  exact synodallaw9_TallyHalf.calls k a0 A1 c1 l1 true W hC hc h

end Go.Proofs.Ytbomomaidglegaa.Pure
