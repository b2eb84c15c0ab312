/- Who comes farther takes nobody back. -/
import Derived.Test.YtbomomaidglegaaXTallyMorex2
import Derived.Test.YtbomomaidglegaaOpens
namespace Go.Proofs.Ytbomomaidglegaa.Pure
open Go.RowKit Go.Proofs.Ytbomomaidglegaa.XTallyMore Go.Proofs.YtbomomaidglegaaW.PrintWords Go.Proofs.YtbomomaidglegaaW.PrintLast Go.Proofs.YtbomomaidglegaaW.PrintMore

namespace CP
/-- Members that rise, from behind b on, and that there are. -/
def rises : Int → List Int → Bool
  | _, [] => true
  | b, x :: l => decide (b < x) && decide (x < 9) && rises x l

theorem rises_snoc (b x : Int) (l : List Int) (h : rises b l = true) (hb : b < x) (hx : x < 9) (hl : ∀ y ∈ l, y < x) : rises b (l ++ [x]) = true := by
  induction l generalizing b with
  | nil => simp [rises, hb, hx]
  | cons y l ih =>
    simp only [rises, Bool.and_eq_true, decide_eq_true_eq] at h
    simp only [List.cons_append, rises, Bool.and_eq_true, decide_eq_true_eq]
    exact ⟨h.1, ih y h.2 (hl y (by simp)) (fun z hz => hl z (by simp [hz]))⟩

theorem rises_mem (b : Int) (l : List Int) (h : rises b l = true) : ∀ x ∈ l, b < x ∧ x < 9 := by
  induction l generalizing b with
  | nil => simp
  | cons y l ih =>
    simp only [rises, Bool.and_eq_true, decide_eq_true_eq] at h
    intro x hx
    rcases List.mem_cons.1 hx with rfl | hx
    · exact h.1
    · have := ih y h.2 x hx
      omega

theorem rises_nodup (b : Int) (l : List Int) (h : rises b l = true) : l.Nodup := by
  induction l generalizing b with
  | nil => simp
  | cons y l ih =>
    simp only [rises, Bool.and_eq_true, decide_eq_true_eq] at h
    refine List.nodup_cons.2 ⟨fun hm => ?_, ih y h.2⟩
    have := rises_mem y l h.2 y hm
    omega

theorem list_l (bits : Int) (d : Nat) : ∀ (i : Int) (out : List Int), 0 ≤ i → i ≤ 9 → 9 - i = d → out.length ≤ 7 → rises (-1) out = true → (∀ x ∈ out, x < i) →
    ∃ r, (∀ k, 2 * d + 1 < k → synodallaw8_List.l0 k bits out i = some r) ∧ r.length ≤ 7 ∧ rises (-1) r = true := by
  induction d with
  | zero =>
    intro i out h0 h1 hd ho hr hm
    refine ⟨out, fun k hk => ?_, by omega, hr⟩
    obtain ⟨k, rfl⟩ : ∃ m, k = m + 2 := ⟨k - 2, by omega⟩
    simp only [synodallaw8_List.l0]; rw [if_neg (by omega)]; simp [synodallaw8_List.j1]
  | succ d ih =>
    intro i out h0 h1 hd ho hr hm
    by_cases e : (out.length : Int) < 7
    · by_cases b : Go.bits .and .i64 (shr .i64 bits i) 1 = 1
      · obtain ⟨r, h, hl⟩ := ih (i + 1) (out ++ [i]) (by omega) (by omega) (by omega) (by simp; omega) (rises_snoc _ _ _ hr (by omega) (by omega) hm) (by
          intro x hx
          rcases List.mem_append.1 hx with hx | hx
          · have := hm x hx; omega
          · simp at hx; omega)
        refine ⟨r, fun k hk => ?_, hl⟩
        obtain ⟨k, rfl⟩ : ∃ m, k = m + 2 := ⟨k - 2, by omega⟩
        simp only [synodallaw8_List.l0]; rw [if_pos (by omega)]; simp only [synodallaw8_List.j1]
        rw [CP.wrap_small (by omega) (by omega), if_pos (by simpa using e), if_pos h0, if_pos b, if_pos (by omega)]
        exact h k (by omega)
      · obtain ⟨r, h, hl⟩ := ih (i + 1) out (by omega) (by omega) (by omega) ho hr (fun x hx => by have := hm x hx; omega)
        refine ⟨r, fun k hk => ?_, hl⟩
        obtain ⟨k, rfl⟩ : ∃ m, k = m + 2 := ⟨k - 2, by omega⟩
        simp only [synodallaw8_List.l0]; rw [if_pos (by omega)]; simp only [synodallaw8_List.j1]
        rw [CP.wrap_small (by omega) (by omega), if_pos (by simpa using e), if_pos h0, if_neg b]
        exact h k (by omega)
    · refine ⟨out, fun k hk => ?_, ho, hr⟩
      obtain ⟨k, rfl⟩ : ∃ m, k = m + 2 := ⟨k - 2, by omega⟩
      simp only [synodallaw8_List.l0]; rw [if_pos (by omega)]; simp only [synodallaw8_List.j1]
      rw [if_neg (by simpa using e)]

theorem list_f (bits : Int) : ∃ r, (∀ k, 20 ≤ k → synodallaw8_List.f k bits = some r) ∧ r.length ≤ 7 ∧ rises (-1) r = true := by
  obtain ⟨r, h, hl, hr⟩ := list_l bits 9 0 [] (by omega) (by omega) (by omega) (by simp) rfl (by simp)
  exact ⟨r, fun k hk => h k (by omega), hl, hr⟩

theorem plain_f (bits : Int) : ∃ r, (∀ k, 20 ≤ k → synodallaw8_Plain.f k bits = some ([], r)) ∧ 1 ≤ r.length ∧ r.length ≤ 7 ∧ rises (-1) r = true := by
  obtain ⟨r, hr, h, hs⟩ := list_f bits
  by_cases e : (r.length : Int) = 0
  · refine ⟨[0], fun k hk => ?_, by simp, by simp, by decide⟩
    unfold synodallaw8_Plain.f
    rw [hr k hk]
    simp only [Option.bind_some]
    rw [if_pos e]
  · refine ⟨r, fun k hk => ?_, by omega, h, hs⟩
    unfold synodallaw8_Plain.f
    rw [hr k hk]
    simp only [Option.bind_some]
    rw [if_neg e]
theorem good_f (old now : Int) : ∃ a b, (∀ k, 20 ≤ k → synodallaw8_Good.f k old now = some (a, b)) ∧ a.length ≤ 7 ∧ 1 ≤ b.length ∧ b.length ≤ 7 ∧ rises (-1) a = true ∧ rises (-1) b = true := by
  obtain ⟨b, hb, hb0, hb1, hbr⟩ := plain_f now
  obtain ⟨a, ha, ha1, har⟩ := list_f old
  refine ⟨a, b, fun k hk => ?_, ha1, hb0, hb1, har, hbr⟩
  unfold synodallaw8_Good.f
  rw [hb k hk]
  simp only [Option.bind_some]
  rw [ha k hk]
  rfl
end CP

namespace TP
open Go.Proofs.Ytbomomaidglegaa.Reach
theorem wrap_small {x : Int} (h0 : -1000000000000000000 ≤ x) (h : x ≤ 1000000000000000000) : wrap64 x = x := by
  unfold wrap64
  omega
theorem half_mono (x z l : List Int) (h : ∀ v ∈ x, v ∈ z) (hx : CP.half l x = true) : CP.half l z = true := by
  have : CP.votes x l ≤ CP.votes z l := by
    unfold CP.votes
    exact List.countP_mono_left (fun v _ hv => by simpa using h v (by simpa using hv))
  unfold CP.half at *
  simp only [decide_eq_true_eq] at *
  omega
theorem quorum_mono (a b x z : List Int) (h : ∀ v ∈ x, v ∈ z) (hx : CP.quorum a b x = true) : CP.quorum a b z = true := by
  unfold CP.quorum at *
  simp only [Bool.and_eq_true, Bool.or_eq_true] at *
  exact ⟨half_mono x z b h hx.1, hx.2.imp id (half_mono x z a h)⟩

/-- Among those that have come to b somebody has come least far. -/
theorem least (m : List (Int × Int)) (b : Int) : ∀ l : List Int, (∃ x ∈ l, b ≤ upto m x) → ∃ y ∈ l, b ≤ upto m y ∧ ∀ z ∈ l, b ≤ upto m z → upto m y ≤ upto m z := by
  intro l
  induction l with
  | nil => rintro ⟨x, hx, _⟩; cases hx
  | cons a l ih =>
    intro h
    by_cases hl : ∃ x ∈ l, b ≤ upto m x
    · obtain ⟨y, hy, hb, hmin⟩ := ih hl
      by_cases ha : b ≤ upto m a ∧ upto m a ≤ upto m y
      · refine ⟨a, by simp, ha.1, fun z hz hbz => ?_⟩
        rcases List.mem_cons.1 hz with rfl | hz
        · exact Int.le_refl _
        · exact Int.le_trans ha.2 (hmin z hz hbz)
      · refine ⟨y, by simp [hy], hb, fun z hz hbz => ?_⟩
        rcases List.mem_cons.1 hz with rfl | hz
        · omega
        · exact hmin z hz hbz
    · obtain ⟨x, hx, hbx⟩ := h
      rcases List.mem_cons.1 hx with rfl | hx
      · refine ⟨x, by simp, hbx, fun z hz hbz => ?_⟩
        rcases List.mem_cons.1 hz with rfl | hz
        · exact Int.le_refl _
        · exact absurd ⟨z, hz, hbz⟩ hl
      · exact absurd ⟨x, hx, hbx⟩ hl

/-- Whoever has a quorum at b is beaten by no greater answer. -/
theorem reach_ge (Qm : List Int → Bool) (hQ : ∀ ys ys' : List Int, (∀ x ∈ ys, x ∈ ys') → Qm ys = true → Qm ys' = true) (m : List (Int × Int)) (b : Int) (h : Qm (yes m b) = true) (hx : ∃ x ∈ ids m, b ≤ upto m x) : b ≤ reach Qm m := by
  obtain ⟨y, hy, hb, hmin⟩ := least m b (ids m) hx
  have := (best_reach Qm m).2.2 y hy rfl (hQ _ _ (fun z hz => by
    rw [mem_yes] at hz ⊢
    exact ⟨hz.1, hmin z hz.1 hz.2⟩) h)
  omega

theorem reach_mono (Qm : List Int → Bool) (hQ : ∀ ys ys' : List Int, (∀ x ∈ ys, x ∈ ys') → Qm ys = true → Qm ys' = true) (m m' : List (Int × Int)) (hi : ∀ x ∈ ids m, x ∈ ids m' ∧ upto m x ≤ upto m' x) : reach Qm m ≤ reach Qm m' := by
  have hB := best_reach Qm m
  rcases hB.2.1 with h0 | ⟨x, hx, _, hq, hb⟩
  · have := (best_reach Qm m').1; omega
  · rw [hb]
    refine reach_ge Qm hQ m' _ (hQ (yes m (upto m x)) _ (fun z hz => ?_) hq) ⟨x, (hi x hx).1, (hi x hx).2⟩
    rw [mem_yes] at hz ⊢
    have := hi z hz.1
    exact ⟨this.1, by omega⟩

theorem known_f : synodallaw9_known.f = some true := by
  unfold synodallaw9_known.f tally_Reach.f
  rw [if_pos (by decide)]
  decide

theorem reach_f (a b : List Int) (l : List S29) (ha : a.length < 1000000) (hb : b.length < 1000000) (hl : l.length < 1000000) (hw : ∀ p ∈ marks l, (Lit.int .i64 p.1).wf = true ∧ (Lit.int .i64 p.2).wf = true) : tally_Reach.f a b l = some (reach (CP.quorum a b) (marks l)) := by
  unfold tally_Reach.f
  rw [if_pos ⟨ha, hb, hl, hw⟩]
end TP
namespace TP
open Go.Proofs.Ytbomomaidglegaa.Reach
theorem rd_at (l : List S29) (i : Nat) (h : i < l.length) : rd_T29 l (i : Int) = l[i] := by simp [rd_T29, List.getD, h]

theorem marks_take (l : List S29) (i : Nat) (h : i < l.length) : (marks l).take (i + 1) = (marks l).take i ++ [((l[i]).f0, (l[i]).f1)] := by
  have hm : i < (marks l).length := by simpa [marks] using h
  rw [List.take_succ_eq_append_getElem hm]
  simp [marks]

theorem more_l (l : List S29) (id more : Int) (a b : List Int) (hl : l.length ≤ 30) (ha : a.length ≤ 7) (hb : b.length ≤ 7) (hid : (Lit.int .i64 id).wf = true) (hm0 : 0 ≤ more) (hm1 : more ≤ 1000)
    (hw : ∀ p ∈ marks l, (Lit.int .i64 p.1).wf = true ∧ (Lit.int .i64 p.2).wf = true) (d : Nat) :
    ∀ (k i : Nat) (at_ : Int), i ≤ l.length → l.length - i = d → d < k → at_ = upto ((marks l).take i) id → at_ ≤ 1099511627776 →
      synodallaw9_TallyMore.l0 k l id more at_ (i : Int) a b = some true := by
  induction d with
  | zero =>
    intro k i at_ h1 h2 hk h3 h4
    obtain ⟨k, rfl⟩ : ∃ m, k = m + 1 := ⟨k - 1, by omega⟩
    have hml : (marks l).length = l.length := by simp [marks]
    have e : (marks l).take i = marks l := List.take_of_length_le (by omega)
    rw [e] at h3
    simp only [synodallaw9_TallyMore.l0]
    rw [if_neg (by omega)]
    by_cases hn : at_ < 0
    · rw [if_pos hn]
    · rw [if_neg hn]
      simp only [Option.bind_some, List.nil_append]
      rw [if_pos (by simp; omega), if_pos (by omega), wrap_small (by omega) (by omega)]
      have hmk : marks (l ++ [(⟨id, at_ + more⟩ : S29)]) = marks l ++ [(id, at_ + more)] := by simp [marks]
      rw [reach_f a b _ (by omega) (by omega) (by simp; omega) (by
        rw [hmk]
        intro p hp
        rcases List.mem_append.1 hp with hp | hp
        · exact hw p hp
        · simp only [List.mem_singleton] at hp
          subst hp
          exact ⟨hid, WalkArith.wf_i64 (by omega)⟩), reach_f a b l (by omega) (by omega) (by omega) hw]
      simp only [Option.bind_some]
      rw [hmk]
      congr 1
      refine decide_eq_true (reach_mono _ (fun ys ys' h => quorum_mono a b ys ys' h) _ _ (fun x hx => ?_))
      rw [ids_snoc, upto_snoc]
      refine ⟨List.mem_append.2 (.inl hx), ?_⟩
      by_cases ex : id = x
      · rw [if_pos ex, ← ex, ← h3]; omega
      · rw [if_neg ex]; exact Int.le_refl _
  | succ d ih =>
    intro k i at_ h1 h2 hk h3 h4
    obtain ⟨k, rfl⟩ : ∃ m, k = m + 1 := ⟨k - 1, by clear h3 h4 hw ih hid; omega⟩
    have hlt : i < l.length := by clear h3 h4 hw ih hid; omega
    have hw1 : wrap64 ((i : Int) + 1) = ((i + 1 : Nat) : Int) := by clear h3 h4 hw ih hid; rw [wrap_small (by omega) (by omega)]; rfl
    have q1 : (i : Int) < (l.length : Int) := Int.ofNat_lt.mpr hlt
    have q2 : 0 ≤ (i : Int) := Int.natCast_nonneg i
    have q3 : i + 1 ≤ l.length := hlt
    have q4 : l.length - (i + 1) = d := by clear h3 h4 hw ih hw1 hid; omega
    have q5 : d < k := by clear h3 h4 hw ih hw1 hid; omega
    have hup := upto_snoc ((marks l).take i) ((l[i]).f0, (l[i]).f1) id
    rw [← marks_take l i hlt] at hup
    simp only [synodallaw9_TallyMore.l0]
    rw [if_pos q1, if_pos q2, rd_at l i hlt, hw1]
    by_cases hg : (l[i]).f1 > 1099511627776
    · rw [if_pos hg]
    · rw [if_neg hg]
      by_cases he : (l[i]).f0 = id
      · rw [if_pos he]
        exact ih k (i + 1) _ q3 q4 q5 (by rw [hup, if_pos he]) (Int.not_lt.mp hg)
      · rw [if_neg he]
        exact ih k (i + 1) _ q3 q4 q5 (by rw [hup, if_neg he]; exact h3) h4

theorem more_f (a0 a1 : Int) (l : List S29) (id more : Int) (hid : (Lit.int .i64 id).wf = true) (hw : ∀ p ∈ marks l, (Lit.int .i64 p.1).wf = true ∧ (Lit.int .i64 p.2).wf = true) : ∃ k, synodallaw9_TallyMore.f k a0 a1 l id more = some true := by
  obtain ⟨a, b, hg, ha, hb0, hb1, _, _⟩ := CP.good_f a0 a1
  obtain ⟨K, hK⟩ : ∃ K, 10000 ≤ K := ⟨10000, Nat.le_refl _⟩
  refine ⟨K + 1, ?_⟩
  have hj : ∀ c : Bool, (c = false → l.length ≤ 30 ∧ 0 ≤ more ∧ more ≤ 1000) → synodallaw9_TallyMore.j0 (K + 1) a0 a1 l id more c = some true := by
    intro c hc
    simp only [synodallaw9_TallyMore.j0]
    cases c
    · obtain ⟨h1, h2, h3⟩ := hc rfl
      rw [if_neg (by decide), hg K (by omega)]
      simp only [Option.bind_some]
      exact more_l l id more a b h1 ha hb1 hid h2 h3 hw l.length K 0 0 (by omega) (by omega) (by omega) (by simp [upto]) (by omega)
    · rw [if_pos rfl]
  unfold synodallaw9_TallyMore.f
  rw [known_f]
  simp only [Option.bind_some, if_true]
  by_cases h1 : (l.length : Int) > 30
  · rw [if_pos h1]; exact hj true (fun h => by cases h)
  · rw [if_neg h1]
    by_cases h2 : more < 0
    · rw [if_pos h2]; exact hj true (fun h => by cases h)
    · rw [if_neg h2]
      exact hj _ (fun h => ⟨by omega, by omega, by simpa using h⟩)
end TP

theorem open29 : Opens.Opens Try.prog k29 29 (fun x => (Lit.int .i64 x.f0).wf = true ∧ (Lit.int .i64 x.f1).wf = true) :=
  Opens.Opens.iso (fun p : Int × Int => (⟨p.1, p.2⟩ : S29)) (fun _ => rfl) (Opens.Opens.struct Try.underlying29 (by kernel_rfl) (Opens.OpensF.cons (by kernel_rfl) rfl (Opens.Opens.int Try.underlying3) (Opens.OpensF.last (by kernel_rfl) (Opens.Opens.int Try.underlying3))))
theorem TallyMore_walk (a0 a1 : Int) (A2 : Option Addr) (c2 : Nat) (l2 : List S29) (a3 a4 : Int) (W : World) (_w0 : (Lit.int .i64 a0).wf = true) (_w1 : (Lit.int .i64 a1).wf = true)
    (hC : Kd.C k29 W A2 l2.length l2) (hc : l2.length ≤ c2) (_hm : l2.length ≤ maxLen) (ho : ∀ a ∈ l2, (Lit.int .i64 a.f0).wf = true ∧ (Lit.int .i64 a.f1).wf = true) (w3 : (Lit.int .i64 a3).wf = true) (_w4 : (Lit.int .i64 a4).wf = true) :
    Calls Try.prog 3 #[.int .i64 a0, .int .i64 a1, .slice A2 l2.length c2, .int .i64 a3, .int .i64 a4] W fun e w' => e = .returned (.bool true) ∧ Below W.heap.size W w' := by
  obtain ⟨k, h⟩ := TP.more_f a0 a1 l2 a3 a4 w3 (fun p hp => by
    simp only [marks, List.mem_map] at hp
    obtain ⟨x, hx, rfl⟩ := hp
    exact ho x hx)
  exact synodallaw9_TallyMore.calls k a0 a1 A2 c2 l2 a3 a4 true W hC hc h

end Go.Proofs.Ytbomomaidglegaa.Pure
