/- Logs that match: what Append and Put of a log's tail make of them. -/
import Derived.Test.YtbomomaidglegaaHistMatch
import Derived.Deep.LoopGhost
import Derived.WalkSpells
namespace Go.Proofs.Ytbomomaidglegaa.Hist
open Go Go.RowKit Go.Proofs.Ytbomomaidglegaa.XHist Go.Proofs.YtbomomaidglegaaW.PrintWords Go.Proofs.YtbomomaidglegaaW.PrintLast Go.Proofs.YtbomomaidglegaaW.PrintMore
set_option linter.unusedVariables false
set_option linter.unusedSimpArgs false

theorem take_snoc {l : List S105} {k : Nat} (h : k < l.length) : l.take k ++ [l[k]] = l.take (k + 1) := by rw [List.take_add_one, List.getElem?_eq_getElem h]; rfl

theorem putTo_tail {a b : List S105} {n : Nat} (hn : n ≤ a.length) (hu : ∀ x ∈ a, 1 ≤ x.f0) (hm : Mt a b) (hb : n ≤ b.length) (h0 : a.take n = b.take n) :
    ∀ k : Nat, k ≤ (a.drop n).length → (putTo 0 (n : Int) b ((a.drop n).map (·.f0)) ((a.drop n).map (·.f1)) k = b ∧ n + k ≤ b.length ∧ a.take (n + k) = b.take (n + k)) ∨ putTo 0 (n : Int) b ((a.drop n).map (·.f0)) ((a.drop n).map (·.f1)) k = a.take (n + k) := by
  intro k
  induction k with
  | zero => intro _; exact .inl ⟨rfl, hb, h0⟩
  | succ k ih =>
    intro hk
    rw [List.length_drop] at hk
    have hka : n + k < a.length := by omega
    have hkd : k < (a.drop n).length := by rw [List.length_drop]; omega
    have e1 : rd ((a.drop n).map (·.f0)) (k : Int) = (a[n + k]).f0 := by
      rw [rd_at_ _ k (by rw [List.length_map]; exact hkd)]
      simp [List.getElem_drop]
    have e2 : rd_T77 ((a.drop n).map (·.f1)) (k : Int) = (a[n + k]).f1 := by
      rw [rd77_at _ k (by rw [List.length_map]; exact hkd)]
      simp [List.getElem_drop]
    have hp := hu _ (List.getElem_mem hka)
    have e3 : ((n : Int) + (k : Int) - 0).toNat = n + k := by omega
    have e4 : (n : Int) + 1 + (k : Int) = ((n + k : Nat) : Int) + 1 := by omega
    have e5 : (⟨(a[n + k]).f0, (a[n + k]).f1⟩ : S105) = a[n + k] := rfl
    simp only [putTo]
    rw [e1, e2, e3, e4, e5]
    rcases ih (by rw [List.length_drop]; omega) with ⟨hc, hl, ht⟩ | hc
    · rw [hc]
      by_cases hkb : n + k < b.length
      · rw [tm_nat b (n + k) hkb]
        by_cases he : (b[n + k]).f0 = (a[n + k]).f0
        · rw [if_pos he]
          exact .inl ⟨rfl, by omega, by rw [show n + (k + 1) = n + k + 1 by omega]; exact hm (n + k) hka hkb he.symm⟩
        · rw [if_neg he, ← ht, take_snoc hka]
          exact .inr (by rw [show n + (k + 1) = n + k + 1 by omega])
      · rw [tm_out 0 b _ (by omega), if_neg (by omega), ← ht, take_snoc hka]
        exact .inr (by rw [show n + (k + 1) = n + k + 1 by omega])
    · rw [hc]
      rw [tm_out 0 _ _ (by rw [List.length_take]; omega), if_neg (by omega), List.take_take, Nat.min_self, take_snoc hka]
      exact .inr (by rw [show n + (k + 1) = n + k + 1 by omega])

/-- What is put of a log behind one of its indexes makes of one that matches it either nothing or it. -/
theorem put_tail {a b : List S105} {n : Nat} (hn : n ≤ a.length) (hu : ∀ x ∈ a, 1 ≤ x.f0) (hm : Mt a b) :
    (putF 0 b (n : Int) (tm 0 a (n : Int)) ((a.drop n).map (·.f0)) ((a.drop n).map (·.f1))).2.2 = b ∨ (putF 0 b (n : Int) (tm 0 a (n : Int)) ((a.drop n).map (·.f0)) ((a.drop n).map (·.f1))).2.2 = a := by
  unfold putF
  split
  · exact .inl rfl
  · split
    · exact .inl rfl
    · rename_i h2
      split
      · exact .inl rfl
      · have hb : n ≤ b.length := by
          have : ¬ 0 + (b.length : Int) < (n : Int) := fun hh => h2 (.inl hh)
          omega
        have h0 : a.take n = b.take n := by
          by_cases hz : n = 0
          · subst hz; rfl
          · obtain ⟨m, rfl⟩ : ∃ m, n = m + 1 := ⟨n - 1, by omega⟩
            have he : tm 0 b ((m + 1 : Nat) : Int) = tm 0 a ((m + 1 : Nat) : Int) := Classical.not_not.1 (fun hh => h2 (.inr ⟨by omega, hh⟩))
            rw [show ((m + 1 : Nat) : Int) = (m : Int) + 1 by omega, tm_nat a m (by omega), tm_nat b m (by omega)] at he
            exact hm m (by omega) (by omega) he.symm
        rcases putTo_tail hn hu hm hb h0 (a.drop n).length (Nat.le_refl _) with ⟨hc, _, _⟩ | hc
        · rw [List.length_map]
          exact .inl hc
        · rw [List.length_map]
          refine .inr (hc.trans ?_)
          rw [List.length_drop, show n + (a.length - n) = a.length by omega, List.take_length]

/-- What is appended under a term that no log has. -/
theorem mt_app {a b : List S105} {t : Int} {es : List S77} (h : Mt a b) (hb : ∀ x ∈ b, x.f0 < t) : Mt (a ++ appL t es) b := by
  intro i ha hb' he
  by_cases hi : i < a.length
  · rw [List.getElem_append_left hi] at he
    rw [List.take_append_of_le_length (by omega)]
    exact h i hi hb' he
  · exfalso
    have h1 := hb _ (List.getElem_mem hb')
    rw [List.getElem_append_right (by omega)] at he
    have h2 : ((appL t es)[i - a.length]'(by rw [List.length_append] at ha; omega)).f0 = t := by simp [appL]
    rw [h2] at he
    omega
theorem app_lead {a : List S105} {t t' : Int} {es : List S77} (hu : Up a) (ht : ∀ x ∈ a, x.f0 ≤ t) (h0 : 0 ≤ t) (htt : t < t') (hl : (a.length : Int) + (es.length : Int) ≤ 40) : appF 0 a t' es = ((a.length : Int) + (es.length : Int), 0, a ++ appL t' es) := by
  unfold appF
  have h1 : tm 0 a (0 + (a.length : Int)) ≤ t := by
    rcases tm_case 0 a (0 + (a.length : Int)) with h | ⟨x, hx, h⟩
    · omega
    · rw [h]; exact ht x hx
  rw [if_neg (by omega), if_neg (by omega)]
  simp
theorem up_lead {a : List S105} {t t' : Int} {es : List S77} (hu : Up a) (ht : ∀ x ∈ a, x.f0 ≤ t) (h0 : 0 ≤ t) (htt : t < t') : Up (a ++ appL t' es) := by
  refine ⟨List.pairwise_append.2 ⟨hu.1, ?_, fun x hx y hy => ?_⟩, fun x hx => ?_⟩
  · simp [appL, List.pairwise_map]
    exact List.pairwise_of_forall (fun _ _ => trivial) |> fun h => by first | exact h | simp
  · simp only [appL, List.mem_map] at hy
    obtain ⟨z, _, rfl⟩ := hy
    have := ht x hx
    show x.f0 ≤ t'
    omega
  · rcases List.mem_append.1 hx with hx | hx
    · exact hu.2 x hx
    · simp only [appL, List.mem_map] at hx
      obtain ⟨z, _, rfl⟩ := hx
      show 1 ≤ t'
      omega

/-- The lists of the three logs, behind terms up to t. -/
def Lead (l : Nat → List S105) (t : Int) : Prop := (∀ j, j < 3 → Up (l j) ∧ (∀ x ∈ l j, x.f0 ≤ t) ∧ (∀ x ∈ l j, x.f1.f4 = []) ∧ (l j).length ≤ 40) ∧ ∀ i j, i < 3 → j < 3 → Mt (l i) (l j)
def updL {α : Type} (l : Nat → α) (p : Nat) (x : α) : Nat → α := fun j => if j = p then x else l j
theorem updL_same {α : Type} (l : Nat → α) (p : Nat) (x : α) : updL l p x p = x := if_pos rfl
theorem updL_other {α : Type} (l : Nat → α) (p : Nat) (x : α) {j : Nat} (h : j ≠ p) : updL l p x j = l j := if_neg h
theorem Lead.app {l : Nat → List S105} {t t' : Int} (h : Lead l t) (p : Nat) (hp : p < 3) (es : List S77) (h0 : 0 ≤ t) (htt : t < t') (hl : ((l p).length : Int) + (es.length : Int) ≤ 40) (hn : ∀ x ∈ es, x.f4 = []) : Lead (updL l p (l p ++ appL t' es)) t' := by
  refine ⟨fun j hj => ?_, fun i j hi hj => ?_⟩
  · by_cases hjp : j = p
    · subst hjp
      rw [updL_same]
      obtain ⟨hu, ht, hf, hll⟩ := h.1 j hj
      refine ⟨up_lead hu ht h0 htt, fun x hx => ?_, fun x hx => ?_, ?_⟩
      · rcases List.mem_append.1 hx with hx | hx
        · have := ht x hx; omega
        · simp only [appL, List.mem_map] at hx
          obtain ⟨z, _, rfl⟩ := hx
          exact Int.le_refl _
      · rcases List.mem_append.1 hx with hx | hx
        · exact hf x hx
        · simp only [appL, List.mem_map] at hx
          obtain ⟨z, hz, rfl⟩ := hx
          exact hn z hz
      · rw [List.length_append, appL_length]; omega
    · rw [updL_other _ _ _ hjp]
      obtain ⟨hu, ht, hf, hll⟩ := h.1 j hj
      exact ⟨hu, fun x hx => by have := ht x hx; omega, hf, hll⟩
  · have key : ∀ j, j < 3 → j ≠ p → Mt (l p ++ appL t' es) (l j) := fun j hj _ => mt_app (h.2 p j hp hj) (fun x hx => by have := (h.1 j hj).2.1 x hx; omega)
    by_cases hip : i = p
    · subst hip
      rw [updL_same]
      by_cases hjp : j = i
      · subst hjp; rw [updL_same]; exact mt_refl _
      · rw [updL_other _ _ _ hjp]; exact key j hj hjp
    · rw [updL_other _ _ _ hip]
      by_cases hjp : j = p
      · subst hjp; rw [updL_same]; exact mt_symm (key i hi hip)
      · rw [updL_other _ _ _ hjp]; exact h.2 i j hi hj
theorem Lead.put {l : Nat → List S105} {t : Int} (h : Lead l t) (p q : Nat) (hp : p < 3) (hq : q < 3) {c : List S105} (hc : c = l q ∨ c = l p) : Lead (updL l q c) t := by
  have hs : ∀ j, j < 3 → ∃ j', j' < 3 ∧ updL l q c j = l j' := fun j hj => by
    by_cases hjq : j = q
    · subst hjq
      rw [updL_same]
      rcases hc with rfl | rfl
      · exact ⟨j, hj, rfl⟩
      · exact ⟨p, hp, rfl⟩
    · exact ⟨j, hj, updL_other _ _ _ hjq⟩
  refine ⟨fun j hj => ?_, fun i j hi hj => ?_⟩
  · obtain ⟨j', hj', he⟩ := hs j hj
    rw [he]
    exact h.1 j' hj'
  · obtain ⟨i', hi', he⟩ := hs i hi
    obtain ⟨j', hj', he'⟩ := hs j hj
    rw [he, he']
    exact h.2 i' j' hi' hj'

/-- The three logs in memory, and the row of pointers to them. -/
def Three (w W : World) (g : Nat → Nat) (F : Nat → Nat → Prop) (l : Nat → List S105) (L : Nat) : Prop :=
  (∀ j, j < 3 → Live w W (g j) (F j) 0 (l j)) ∧ (∀ i j, i < 3 → j < 3 → i ≠ j → ∀ q, F i q → ¬ F j q) ∧ W.heap[L]? = some (.cells #[.pointer (some ⟨g 0, 0, none⟩), .pointer (some ⟨g 1, 0, none⟩), .pointer (some ⟨g 2, 0, none⟩)] 50 (0, 0)) ∧ (∀ j, j < 3 → ¬ F j L)
theorem Three.below {w W W' : World} {g : Nat → Nat} {F : Nat → Nat → Prop} {l : Nat → List S105} {L : Nat} (h : Three w W g F l L) (hb : Below W.heap.size W W') : Three w W' g F l L :=
  ⟨fun j hj => (h.1 j hj).below hb, h.2.1, blk_below h.2.2.1 hb, h.2.2.2⟩
theorem Three.write {w W W' : World} {g : Nat → Nat} {F : Nat → Nat → Prop} {l : Nat → List S105} {L : Nat} (h : Three w W g F l L) (p : Nat) (hp : p < 3) {F' : Nat → Prop} {l' : List S105} (hl : Live w W' (g p) F' 0 l') (hF : ∀ q, F' q → F p q ∨ W.heap.size ≤ q) (hk : Kept (F p) W W') : Three w W' g (updL F p F') (updL l p l') L := by
  have hd : ∀ j, j < 3 → j ≠ p → ∀ q, F j q → ¬ F' q := fun j hj hjp q hq hf => by
    rcases hF q hf with h1 | h1
    · exact h.2.1 j p hj hp hjp q hq h1
    · have := (h.1 j hj).lt q hq; omega
  refine ⟨fun j hj => ?_, fun i j hi hj hij => ?_, blk_kept hk h.2.2.1 (h.2.2.2 p hp), fun j hj => ?_⟩
  · by_cases hjp : j = p
    · subst hjp; rw [updL_same, updL_same]; exact hl
    · rw [updL_other _ _ _ hjp, updL_other _ _ _ hjp]
      exact (h.1 j hj).kept hk (fun q hq hf => h.2.1 j p hj hp hjp q hq hf) (fun q hq => (h.1 p hp).ge q hq)
  · by_cases hip : i = p
    · subst hip
      rw [updL_same, updL_other _ _ _ (fun hh => hij hh.symm)]
      intro q hq hf
      exact hd j hj (fun hh => hij hh.symm) q hf hq
    · rw [updL_other _ _ _ hip]
      by_cases hjp : j = p
      · subst hjp; rw [updL_same]; exact hd i hi hip
      · rw [updL_other _ _ _ hjp]; exact h.2.1 i j hi hj hij
  · by_cases hjp : j = p
    · subst hjp
      rw [updL_same]
      intro hf
      rcases hF L hf with h1 | h1
      · exact h.2.2.2 j hj h1
      · have := blk_lt h.2.2.1; omega
    · rw [updL_other _ _ _ hjp]; exact h.2.2.2 j hj
theorem Three.cell {w W : World} {g : Nat → Nat} {F : Nat → Nat → Prop} {l : Nat → List S105} {L : Nat} (h : Three w W g F l L) (p : Nat) (hp : p < 3) : W.cell? ⟨L, p, none⟩ = some (.pointer (some ⟨g p, 0, none⟩)) := by
  have hb := blk_cell h.2.2.1 p
  rcases (show p = 0 ∨ p = 1 ∨ p = 2 by omega) with rfl | rfl | rfl <;> exact hb.trans rfl
end Go.Proofs.Ytbomomaidglegaa.Hist
