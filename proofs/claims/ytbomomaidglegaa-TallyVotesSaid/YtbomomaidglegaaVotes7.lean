/- TallyVotes: the plain law; the votes that it is given. -/
import Derived.Test.YtbomomaidglegaaVotes6
import Derived.Test.YtbomomaidglegaaOpens
namespace Go.Proofs.Ytbomomaidglegaa.XTally
open Go Go.RowKit
namespace CP
theorem votes_mono (x z l : List Int) (h : ∀ v ∈ x, v ∈ z) : votes x l ≤ votes z l := by
  unfold votes
  exact List.countP_mono_left (fun v _ hv => by simpa using h v (by simpa using hv))

theorem half_mono (x z l : List Int) (h : ∀ v ∈ x, v ∈ z) (hx : half l x = true) : half l z = true := by
  have := votes_mono x z l h
  unfold half at *
  simp only [decide_eq_true_eq] at *
  omega

theorem quorum_mono (a b x z : List Int) (h : ∀ v ∈ x, v ∈ z) (hx : quorum a b x = true) : quorum a b z = true := by
  unfold quorum at *
  simp only [Bool.and_eq_true, Bool.or_eq_true] at *
  exact ⟨half_mono x z b h hx.1, hx.2.imp id (half_mono x z a h)⟩

end CP
end Go.Proofs.Ytbomomaidglegaa.XTally
namespace Go.Proofs.Ytbomomaidglegaa.Votes
open Go Go.RowKit Go.Maps Go.Proofs.Ytbomomaidglegaa.XTally Go.Proofs.YtbomomaidglegaaW.PrintWords Go.Proofs.YtbomomaidglegaaW.PrintLast Go.Proofs.YtbomomaidglegaaW.PrintMore
set_option linter.unusedVariables false

/-- The document's votes say what the map says. -/
def Inv (o n : List Int) (vs : List (Int × Bool)) (yes no : List Int) : Prop :=
  (∀ x, x ∈ yes ↔ x ∈ vids vs ∧ vyes vs x = true) ∧ (∀ x, x ∈ no ↔ x ∈ vids vs ∧ vyes vs x = false) ∧ (∀ x ∈ vids vs, x ∈ o ∨ x ∈ n)
theorem Inv.start (o n : List Int) : Inv o n [] [] [] := ⟨fun x => by simp [vids], fun x => by simp [vids], fun x h => by simp [vids] at h⟩
theorem Inv.ok {o n : List Int} {vs : List (Int × Bool)} {yes no : List Int} (h : Inv o n vs yes no) (x : Int) : rOk o n yes no x = addOk o n vs x := by
  unfold rOk addOk
  by_cases hx : x ∈ vids vs
  · cases hv : vyes vs x
    · have h1 : x ∈ no := (h.2.1 x).2 ⟨hx, hv⟩
      simp [hx, h1]
    · have h1 : x ∈ yes := (h.1 x).2 ⟨hx, hv⟩
      simp [hx, h1]
  · have h1 : x ∉ yes := fun h2 => hx ((h.1 x).1 h2).1
    have h2 : x ∉ no := fun h2 => hx ((h.2.1 x).1 h2).1
    simp [hx, h1, h2]
theorem Inv.step {o n : List Int} {vs : List (Int × Bool)} {yes no : List Int} (h : Inv o n vs yes no) (x : Int) (y : Bool) : Inv o n (addTo o n vs x y) (rYes o n yes no x y) (rNo o n yes no x y) := by
  unfold addTo rYes rNo
  rw [h.ok x]
  by_cases hok : addOk o n vs x = true
  · have hxn : x ∉ vids vs := fun hx => by unfold addOk at hok; simp [hx] at hok
    have hxi : x ∈ o ∨ x ∈ n := by unfold addOk at hok; simp [hxn] at hok; exact hok
    rw [if_pos hok, hok]
    refine ⟨fun z => ?_, fun z => ?_, fun z hz => ?_⟩
    · rw [vids_snoc, vyes_snoc, List.mem_append]
      cases y
      · rw [if_neg (by simp), h.1 z]
        by_cases e : x = z
        · subst e; simp [hxn]
        · rw [if_neg e]
          simp only [List.mem_singleton]
          exact ⟨fun h2 => ⟨.inl h2.1, h2.2⟩, fun h2 => ⟨h2.1.resolve_right (fun e2 => e e2.symm), h2.2⟩⟩
      · rw [if_pos (by simp), List.mem_append, h.1 z]
        by_cases e : x = z
        · subst e; simp
        · rw [if_neg e]
          simp only [List.mem_singleton]
          exact ⟨fun h2 => h2.elim (fun h2 => ⟨.inl h2.1, h2.2⟩) (fun e2 => absurd e2.symm e), fun h2 => .inl ⟨h2.1.resolve_right (fun e2 => e e2.symm), h2.2⟩⟩
    · rw [vids_snoc, vyes_snoc, List.mem_append]
      cases y
      · rw [if_pos (by simp), List.mem_append, h.2.1 z]
        by_cases e : x = z
        · subst e; simp
        · rw [if_neg e]
          simp only [List.mem_singleton]
          exact ⟨fun h2 => h2.elim (fun h2 => ⟨.inl h2.1, h2.2⟩) (fun e2 => absurd e2.symm e), fun h2 => .inl ⟨h2.1.resolve_right (fun e2 => e e2.symm), h2.2⟩⟩
      · rw [if_neg (by simp), h.2.1 z]
        by_cases e : x = z
        · subst e; simp [hxn]
        · rw [if_neg e]
          simp only [List.mem_singleton]
          exact ⟨fun h2 => ⟨.inl h2.1, h2.2⟩, fun h2 => ⟨h2.1.resolve_right (fun e2 => e e2.symm), h2.2⟩⟩
    · rw [vids_snoc, List.mem_append] at hz
      rcases hz with hz | hz
      · exact h.2.2 z hz
      · simp only [List.mem_singleton] at hz
        subst hz
        exact hxi
  · have hok' : addOk o n vs x = false := by simpa using hok
    rw [if_neg hok, hok']
    simpa using h
theorem addTo_le (o n : List Int) (vs : List (Int × Bool)) (x : Int) (y : Bool) : (addTo o n vs x y).length ≤ vs.length + 1 := by
  unfold addTo
  split <;> simp
theorem rYes_le (o n yes no : List Int) (x : Int) (y : Bool) : (rYes o n yes no x y).length ≤ yes.length + 1 := by
  unfold rYes
  split <;> simp
theorem rNo_le (o n yes no : List Int) (x : Int) (y : Bool) : (rNo o n yes no x y).length ≤ no.length + 1 := by
  unfold rNo
  split <;> simp
theorem vids_addTo (o n : List Int) (vs : List (Int × Bool)) (x : Int) (y : Bool) (z : Int) (h : z ∈ vids vs) : z ∈ vids (addTo o n vs x y) := by
  unfold addTo
  split
  · rw [vids_snoc]; exact List.mem_append_left _ h
  · exact h
theorem vids_addTo_new (o n : List Int) (vs : List (Int × Bool)) (x : Int) (y : Bool) (h : x ∈ o ∨ x ∈ n) : x ∈ vids (addTo o n vs x y) := by
  by_cases hx : x ∈ vids vs
  · exact vids_addTo o n vs x y x hx
  · unfold addTo
    rw [if_pos (by unfold addOk; simp [hx, h]), vids_snoc]
    simp
theorem vids_addTo_sub (o n : List Int) (vs : List (Int × Bool)) (x : Int) (y : Bool) (h : ∀ z ∈ vids vs, z ∈ o ∨ z ∈ n) : ∀ z ∈ vids (addTo o n vs x y), z ∈ o ∨ z ∈ n := by
  intro z hz
  unfold addTo at hz
  split at hz
  · next hok =>
    rw [vids_snoc, List.mem_append] at hz
    rcases hz with hz | hz
    · exact h z hz
    · simp only [List.mem_singleton] at hz
      subst hz
      unfold addOk at hok
      simp only [Bool.and_eq_true, decide_eq_true_eq] at hok
      exact hok.2
  · exact h z hz
theorem Inv.won {o n : List Int} {vs : List (Int × Bool)} {yes no : List Int} (h : Inv o n vs yes no) : CP.quorum o n yes = CP.quorum o n (yesV vs) :=
  CP.quorum_eq o n _ _ (fun x => by rw [h.1 x, mem_yesV])
theorem Inv.lost {o n : List Int} {vs : List (Int × Bool)} {yes no : List Int} (h : Inv o n vs yes no) (hb : ∀ x, x ∈ o ∨ x ∈ n → -1 < x ∧ x < 9) :
    CP.quorum o n (leftR no (mem8 o n 9)) = CP.quorum o n (lostL vs (Mem.members o n)) :=
  CP.quorum_eq o n _ _ (fun x => by
    unfold leftR lostL
    rw [List.mem_filter, List.mem_filter, mem8_mem, mem_members_iff]
    have h1 : (!decide (x ∈ no)) = true ↔ (vyes vs x || !decide (x ∈ vids vs)) = true := by
      have h2 := h.2.1 x
      by_cases hx : x ∈ vids vs
      · cases hv : vyes vs x
        · have : x ∈ no := h2.2 ⟨hx, hv⟩
          simp [this, hx]
        · have : x ∉ no := fun h3 => by have h4 := (h2.1 h3).2; rw [hv] at h4; cases h4
          simp [this]
      · have : x ∉ no := fun h3 => hx (h2.1 h3).1
        simp [this, hx]
    rw [h1]
    exact ⟨fun h2 => ⟨h2.1.2, h2.2⟩, fun h2 => ⟨⟨by have := hb x h2.1; omega, h2.1⟩, h2.2⟩⟩)
theorem never_both (o n : List Int) (vs : List (Int × Bool)) (h : ∀ x ∈ vids vs, x ∈ o ∨ x ∈ n) (hw : CP.quorum o n (yesV vs) = true) : CP.quorum o n (lostL vs (Mem.members o n)) = true :=
  CP.quorum_mono o n (yesV vs) _ (fun x hx => by
    rw [mem_yesV] at hx
    unfold lostL
    rw [List.mem_filter, mem_members_iff]
    exact ⟨h x hx.1, by rw [hx.2]; rfl⟩) hw
theorem all_in (o n : List Int) (vs : List (Int × Bool)) (h : ∀ x ∈ vids vs, x ∈ o ∨ x ∈ n) (ha : ∀ x, x ∈ o ∨ x ∈ n → x ∈ vids vs) : CP.quorum o n (lostL vs (Mem.members o n)) = CP.quorum o n (yesV vs) :=
  CP.quorum_eq o n _ _ (fun x => by
    unfold lostL
    rw [List.mem_filter, mem_members_iff, mem_yesV]
    constructor
    · rintro ⟨h1, h2⟩
      have h3 := ha x h1
      exact ⟨h3, by simpa [h3] using h2⟩
    · rintro ⟨h1, h2⟩
      exact ⟨h x h1, by rw [h2]; rfl⟩)

/-! ### The votes that the law is given -/
structure S44 where
  f0 : Int
  f1 : Bool
def k44 : Kd S44 := Kd.iso (Kd.pair (Kd.int .i64) Kd.bool) (fun x : S44 => (x.f0, x.f1))
theorem k44_open {w : World} {x : S44} {cs : List Value} (h : k44.K w x cs) : cs = [.int .i64 x.f0, .bool x.f1] := by
  obtain ⟨_, _, rfl, rfl, rfl⟩ := h
  exact rfl
theorem at_k44 {w : World} {A : Option Addr} {n : Nat} {xs : List S44} (h : Kd.C k44 w A n xs) (i : Nat) (h1 : i < n) (h2 : i < xs.length) : ∃ ad, A = some ad ∧ w.cell? (ad.add (i * 2)) = some (.int .i64 xs[i].f0) ∧ w.cell? ⟨(ad.add (i * 2)).block, (ad.add (i * 2)).off + 1, none⟩ = some (.bool xs[i].f1) := by
  obtain ⟨ad, c, e, _, hK, hc0⟩ := Kd.C_get h ⟨0, false⟩ (i : Int) (by omega) (by omega)
  have hc : ∀ j u, c[j]? = some u → w.cell? (ad.add ((i : Int).toNat * 2 + j)) = some u := hc0
  obtain rfl := k44_open hK
  have hx : xs.getD (i : Int).toNat ⟨0, false⟩ = xs[i] := by rw [Int.toNat_natCast]; simp [List.getD, h2]
  rw [hx] at hc
  rw [Int.toNat_natCast] at hc
  exact ⟨ad, e, hc 0 _ rfl, by rw [← add_field _ _ 1 (by omega)]; exact hc 1 _ rfl⟩
theorem open44 : Opens.Opens Try.prog k44 44 (fun x => (Lit.int .i64 x.f0).wf = true) :=
  (Opens.Opens.iso (fun p : Int × Bool => (⟨p.1, p.2⟩ : S44)) (fun _ => rfl) (Opens.Opens.struct Try.underlying44 (by kernel_rfl)
    (Opens.OpensF.cons (by kernel_rfl) rfl (Opens.Opens.int Try.underlying3) (Opens.OpensF.last (by kernel_rfl) (Opens.Opens.bool Try.underlying4))))).mono (fun _ h => h.1)
/-- A row of numbers through a write into a map. -/
theorem R_map {B : Nat} {W W' : World} {gm N : Nat} {D : DataW Unit} {ok : Nat → Prop} {v : Value} {l : List Int} (h : Kd.R (Kd.int .i64) 3 W B ok v l) (hk : Kept (fun k => k = gm) W W') (hm : W.ownsMap Try.prog 3 (plainElem (H := Unit) Try.prog 4) gm N D) : Kd.R (Kd.int .i64) 3 W' B ok v l :=
  Kd.R_mono (Kd.R_step (Kd.R_bound h) (fun k hok hlt => hk.block k hlt (fun hf => by
    subst hf
    obtain ⟨_, _, _, q, hq, cs, hc⟩ := hok
    exact map_not_cells hm hc rfl))) (fun k h => h.1)
theorem IsV.lower {B B' : Nat} {W : World} {gv gm : Nat} {o n : List Int} {vs : List (Int × Bool)} (h : IsV B W gv gm o n vs) (hb : B' ≤ B) : IsV B' W gv gm o n vs := by
  obtain ⟨Ao, co, An, cn, hg, h1, h2, hm, hB, hC⟩ := h
  exact ⟨Ao, co, An, cn, hg, Kd.R_lower h1 hb, Kd.R_lower h2 hb, hm, Nat.le_trans hb hB, Nat.le_trans hb hC⟩
theorem IsV.map {B : Nat} {W : World} {gv gm : Nat} {o n : List Int} {vs : List (Int × Bool)} (h : IsV B W gv gm o n vs) : W.ownsMap Try.prog 3 (plainElem (H := Unit) Try.prog 4) gm vs.length (Dv vs) := by
  obtain ⟨_, _, _, _, _, _, _, hm, _⟩ := h
  exact hm
end Go.Proofs.Ytbomomaidglegaa.Votes
