/- HistTerms: terms do not fall along a log, whatever was put. -/
import Derived.Test.YtbomomaidglegaaHistNewer
import Derived.Test.YtbomomaidglegaaOpens
import Derived.Deep.LoopGhost
import Derived.WalkSpells
namespace Go.Proofs.Ytbomomaidglegaa.Hist
open Go Go.RowKit Go.Proofs.Ytbomomaidglegaa.XHist Go.Proofs.YtbomomaidglegaaW.PrintWords Go.Proofs.YtbomomaidglegaaW.PrintLast Go.Proofs.YtbomomaidglegaaW.PrintMore
set_option linter.unusedVariables false
set_option linter.unusedSimpArgs false


theorem up_le {l : List S105} (h : Up l) (i j : Nat) (hij : i ≤ j) (hj : j < l.length) : (l[i]).f0 ≤ (l[j]).f0 := by
  rcases Nat.lt_or_ge i j with hlt | hge
  · exact List.pairwise_iff_getElem.1 h.1 i j (by omega) hj hlt
  · obtain rfl : i = j := by omega
    exact Int.le_refl _
theorem up_take {l : List S105} (h : Up l) (n : Nat) : Up (l.take n) := ⟨h.1.sublist (List.take_sublist n l), fun x hx => h.2 x (List.mem_of_mem_take hx)⟩
theorem up_take_le {b : Int} {l : List S105} (h : Up l) (n : Nat) (hn : n ≤ l.length) : ∀ x ∈ l.take n, x.f0 ≤ tm b l (b + (n : Int)) := by
  intro x hx
  obtain ⟨i, hi, rfl⟩ := List.mem_iff_getElem.1 hx
  rw [List.length_take] at hi
  rw [List.getElem_take, show b + (n : Int) = b + 1 + ((n - 1 : Nat) : Int) by omega, tm_in b l (n - 1) (by omega)]
  exact up_le h i (n - 1) (by omega) (by omega)
theorem up_last {b : Int} {l : List S105} (h : Up l) : ∀ x ∈ l, x.f0 ≤ tm b l (b + (l.length : Int)) := by
  have := up_take_le (b := b) h l.length (Nat.le_refl _)
  rwa [List.take_length] at this
theorem up_append {l : List S105} {t : Int} (h : Up l) (h1 : 1 ≤ t) (h2 : ∀ x ∈ l, x.f0 ≤ t) (es : List S77) : Up (l ++ appL t es) := by
  induction es generalizing l with
  | nil => simpa [appL] using h
  | cons e es ih =>
    have := ih (up_snoc (e := e) h h1 h2) (fun x hx => by
      rcases List.mem_append.1 hx with hx | hx
      · exact h2 x hx
      · simp only [List.mem_singleton] at hx
        subst hx
        exact Int.le_refl _)
    simpa [appL] using this
theorem up_app {b t : Int} {l : List S105} {es : List S77} (h : Up l) : Up (appF b l t es).2.2 := by
  unfold appF
  split
  · exact h
  · rename_i hn
    split
    · exact h
    · exact up_append h (by omega) (fun x hx => Int.le_trans (up_last (b := b) h x hx) (by omega)) es
theorem rise_prev : ∀ (ts : List Int) (t : Int), rise t ts = true → ∀ (k : Nat) (h : k < ts.length), (if hk : k = 0 then t else ts[k - 1]) ≤ ts[k] := by
  intro ts
  induction ts with
  | nil => intro t _ k h; simp at h
  | cons a r ih =>
    intro t h k hk
    simp only [rise] at h
    split at h
    · cases h
    · rename_i hn
      cases k with
      | zero => simp; omega
      | succ k =>
        have hi := ih a h k (by simpa using hk)
        rw [dif_neg (by omega)]
        cases k with
        | zero => simpa using hi
        | succ k => simpa using hi
theorem up_putTo {b x t : Int} {l : List S105} {ts : List Int} {es : List S77} (h : Up l) (hr : rise t ts = true) (hb : b ≤ x) (hx : x ≤ b + (l.length : Int)) (ht : b < x → tm b l x = t) (hl : b + (l.length : Int) ≤ 64) (hn : x + (ts.length : Int) ≤ 64) :
    ∀ k : Nat, k ≤ ts.length → Up (putTo b x l ts es k) ∧ (∀ hk : 0 < k, tm b (putTo b x l ts es k) (x + (k : Int)) = rd ts ((k : Int) - 1)) := by
  have hpos := rise_pos ts t hr
  intro k
  induction k with
  | zero => intro _; exact ⟨h, fun hk => by omega⟩
  | succ k ih =>
    intro hk
    have hlt : k < ts.length := by omega
    obtain ⟨iu, it⟩ := ih (by omega)
    have hbd := (putTo_bounds b x l ts es hpos hb hx hl hn k (by omega)).1
    have hp := rise_prev ts t hr k hlt
    have hrd : rd ts (k : Int) = ts[k] := rd_at_ ts k hlt
    have hle : tm b (putTo b x l ts es k) (x + (k : Int)) ≤ ts[k] := by
      by_cases h0 : k = 0
      · subst h0
        rw [dif_pos rfl] at hp
        simp only [putTo]
        by_cases hbx : b < x
        · have := ht hbx
          simp only [Int.natCast_zero, Int.add_zero]
          omega
        · rw [tm_out _ _ _ (by simp; omega)]
          have := hpos _ (List.getElem_mem hlt)
          omega
      · rw [it (by omega), show (k : Int) - 1 = ((k - 1 : Nat) : Int) by omega, rd_at_ ts (k - 1) (by omega)]
        rw [dif_neg h0] at hp
        exact hp
    rw [show ((k + 1 : Nat) : Int) - 1 = (k : Int) by omega]
    simp only [putTo]
    generalize putTo b x l ts es k = c at iu hbd hle ⊢
    by_cases hc : tm b c (x + 1 + (k : Int)) = rd ts (k : Int)
    · rw [if_pos hc]
      refine ⟨iu, fun _ => ?_⟩
      rw [show x + ((k + 1 : Nat) : Int) = x + 1 + (k : Int) by omega]
      exact hc
    · rw [if_neg hc]
      obtain ⟨n, hnn⟩ : ∃ n : Nat, (x + (k : Int) - b).toNat = n := ⟨_, rfl⟩
      rw [hnn]
      have hnl : n ≤ c.length := by omega
      have hlen : (c.take n).length = n := by rw [List.length_take]; omega
      refine ⟨up_snoc (up_take iu n) (by rw [hrd]; exact hpos _ (List.getElem_mem hlt)) (fun y hy => ?_), fun _ => ?_⟩
      · rw [hrd]
        have := up_take_le (b := b) iu n hnl y hy
        rw [show b + (n : Int) = x + (k : Int) by omega] at this
        omega
      · rw [show x + ((k + 1 : Nat) : Int) = b + 1 + (n : Int) by omega, tm_in b _ n (by rw [List.length_append, hlen]; simp)]
        rw [List.getElem_append_right (by omega)]
        simp [hlen]
theorem up_put {b x t : Int} {l : List S105} {ts : List Int} {es : List S77} (h : Up l) (hl : b + (l.length : Int) ≤ 64) : Up (putF b l x t ts es).2.2 := by
  unfold putF
  split
  · exact h
  · rename_i h1
    split
    · exact h
    · rename_i h2
      split
      · exact h
      · rename_i h3
        have e1 : ts.length = es.length := Classical.not_not.1 (fun hh => h1 (.inl hh))
        have e2 : rise t ts = true := by
          cases hr : rise t ts with
          | true => rfl
          | false => exact absurd (.inr (.inl hr)) h1
        have e3 : ¬ x < b := fun hh => h1 (.inr (.inr hh))
        have e4 : ¬ b + (l.length : Int) < x := fun hh => h2 (.inl hh)
        have e5 : b < x → tm b l x = t := fun hh => Classical.not_not.1 (fun hne => h2 (.inr ⟨hh, hne⟩))
        exact (up_putTo h e2 (by omega) (by omega) e5 hl (by omega) es.length (by omega)).1
theorem up_tm {l : List S105} (h : Up l) (k : Nat) (h1 : 1 ≤ k) (h2 : k ≤ l.length) : 1 ≤ tm 0 l (k : Int) ∧ tm 0 l ((k : Int) - 1) ≤ tm 0 l (k : Int) := by
  have e : tm 0 l (k : Int) = (l[k - 1]).f0 := by
    have := tm_in 0 l (k - 1) (by omega)
    rwa [show (0 : Int) + 1 + ((k - 1 : Nat) : Int) = (k : Int) by omega] at this
  rw [e]
  refine ⟨h.2 _ (List.getElem_mem _), ?_⟩
  by_cases hk : k = 1
  · subst hk
    rw [tm_out _ _ _ (by simp)]
    have := h.2 _ (List.getElem_mem (show 1 - 1 < l.length by omega))
    omega
  · have := tm_in 0 l (k - 2) (by omega)
    rw [show (0 : Int) + 1 + ((k - 2 : Nat) : Int) = (k : Int) - 1 by omega] at this
    rw [this]
    exact up_le h (k - 2) (k - 1) (by omega) (by omega)

theorem term_at {B : Nat} {W : World} {g : Nat} {F : Nat → Prop} {l : List S105} (h : IsH B W g F 0 l) (i m : Int) (hm : tm 0 l i = m) :
    Calls Try.prog 36 #[.pointer (some ⟨g, 0, none⟩), .int .i64 i] W fun e w' => e = .returned (.int .i64 m) ∧ Drawn0 W w' :=
  (term_calls h i).mono (by rintro e w' ⟨rfl, hd⟩; rw [hm]; exact ⟨rfl, hd⟩)

set_option maxHeartbeats 16000000 in
set_option maxRecDepth 100000 in
theorem HistTerms_walk (A0 : Option Addr) (c0 : Nat) (l0 : List S54) (w : World) (hC0 : Kd.C k54 w A0 l0.length l0) (hc0 : l0.length ≤ c0) :
    Calls Try.prog 7 #[.slice A0 l0.length c0] w fun e w' => e = .returned (.bool true) ∧ Below w.heap.size w w' := by
  have hu54 := Try.underlying54
  have HC0 := Aside0.mk hC0
  have HCC := Aside0.mk hc0
  clear hC0 hc0
  go_enter Try.func7, Try.ntmps7
  go_upto_region 3 with (first
    | (go_at_call 29; refine (known_calls _).mono ?_; rintro e_ w1 ⟨rfl, hb1⟩; have HB1 := Aside0.mk hb1; clear hb1))
  go_upto_if 11 with (first
    | (go_at_call 30; refine (few_calls A0 c0 l0 _ (Kd.C_below HC0.out HB1.out) HCC.out).mono ?_; rintro e_ w2 ⟨few, rfl, ⟨nf, rfl⟩, hfew⟩))
  cases few
  · go_wp2
    go_ret
    exact ⟨rfl, pw_below_drewN HB1.out _⟩
  have HFEW := Aside0.mk (hfew rfl)
  clear hfew
  go_wp2_with (first
    | (go_at_call 31; refine (new_live w 0 (by omega) (by omega) (pw_below_drewN HB1.out _)).mono ?_; rintro e_ w3 ⟨g, F3, rfl, hl_, _, _⟩; have HL3 := Aside0.mk hl_; clear hl_))
  clear HB1
  go_loopw [4] (fun v4 wr => ∃ (i : Nat) (F : Nat → Prop) (l : List S105), v4 = .int .i64 (i : Int) ∧ i ≤ l0.length ∧ Aside0 (Live w wr g F 0 l) ∧ Aside0 (Up l))
    (fun v4 _ => l0.length - (intOf v4).toNat)
  case atStart => exact ⟨0, F3, [], rfl, by omega, HL3, ⟨⟨List.Pairwise.nil, by simp⟩⟩⟩
  case round =>
    obtain ⟨i, F, l, rfl, hi, HL, HU⟩ := hrel
    clear HL3
    have hf60 := HFEW.out.1
    by_cases hlt0 : i < l0.length
    · have p1 : 0 ≤ (i : Int) := by omega
      have q1 : (i : Int) < (l0.length : Int) := by omega
      obtain ⟨ad, A3, c3, A4, c4, rfl, hx0, hx1, hx2, hx3, hx4, hc3, hC3, hc4, hC4⟩ := at_T54 HC0.out (i : Int) p1 q1
      rw [Int.toNat_natCast] at hx0 hx1 hx2 hx3 hx4
      have hok := HFEW.out.2 (l0[i]) (List.getElem_mem hlt0)
      rw [← rd54_at l0 i hlt0] at hok
      obtain ⟨x, hxi⟩ : ∃ x, rd_T54 l0 (i : Int) = x := ⟨_, rfl⟩
      rw [hxi] at hx0 hx1 hx2 hx3 hx4 hc3 hC3 hc4 hC4 hok
      have HOK := Aside0.mk hok
      have HX3 := Aside0.mk hC3
      have HC3 := Aside0.mk hc3
      have HX4 := Aside0.mk hC4
      have HC4 := Aside0.mk hc4
      have HM4 := Aside0.mk (show ∀ y ∈ x.f4, y.f4.length < 17592186044416 from fun y hy => by have := hok.2.2 y hy; omega)
      have hy0 := pw_cell_below HL.out.2.2 hx0
      have hy1 := pw_cell_below HL.out.2.2 hx1
      have hy2 := pw_cell_below HL.out.2.2 hx2
      have hy3 := pw_cell_below HL.out.2.2 hx3
      have hy4 := pw_cell_below HL.out.2.2 hx4
      have q2 := decide_eq_true q1
      replace p1 := eq_true p1
      replace q1 := eq_true q1
      clear hok hC3 hc3 hC4 hc4 hxi hx0 hx1 hx2 hx3 hx4
      cases hput : x.f0 with
      | true =>
        rw [hput] at hy0
        have HLA := Aside0.mk (HL.out.alloc (.cells #[.bool true, .int .i64 x.f1, .int .i64 x.f2, .slice A3 x.f3.length c3, .slice A4 x.f4.length c4] 54))
        have HS3 := Aside0.mk (stable_of_C HX3.out HLA.out.2.2 HLA.out.ge)
        have HS4 := Aside0.mk (stable_of_C HX4.out HLA.out.2.2 HLA.out.ge)
        have HL3_ := Aside0.mk (show x.f3.length < 1000000 by have := HOK.out.1; omega)
        have HL4_ := Aside0.mk (show x.f4.length < 1000000 by have := HOK.out.2.1; omega)
        go_upto_region 13 with (first
          | (go_at_call 32; refine (put_live HLA.out x.f1 x.f2 A3 c3 x.f3 A4 c4 x.f4 HS3.out HC3.out HL3_.out HS4.out HC4.out HL4_.out HM4.out).mono ?_; rintro e_ w4 ⟨F4, rfl, hl_, _, _⟩; have HL4 := Aside0.mk hl_; have HUP := Aside0.mk (up_put (b := 0) (x := x.f1) (t := x.f2) (ts := x.f3) (es := x.f4) HU.out HL.out.bounds.2); clear hl_))
        clear hy0 hy1 hy2 hy3 hy4 HL HU
        obtain ⟨l5, hl5⟩ : ∃ l5, (putF 0 l x.f1 x.f2 x.f3 x.f4).2.2 = l5 := ⟨_, rfl⟩
        obtain ⟨F5, hF5⟩ : ∃ F5, F4 = F5 := ⟨_, rfl⟩
        rw [hl5, hF5] at HL4
        rw [hl5] at HUP
        have HL5 := HL4
        have HU5 := HUP
        clear HL4 HUP hl5 hF5
        go_wp2
        go_loopw [6] (fun v6 wr => ∃ (k : Nat), v6 = .int .i64 (k : Int) ∧ 1 ≤ k ∧ k ≤ l5.length + 1 ∧ Aside0 (Live w wr g F5 0 l5))
          (fun v6 _ => l5.length + 1 - (intOf v6).toNat)
        case atStart => exact ⟨1, rfl, by omega, by omega, HL5⟩
        case round =>
          obtain ⟨k, rfl, hk1, hk2, HLk⟩ := hrel
          have HI5 := Aside0.mk HLk.out.1
          have hb5 := HLk.out.bounds
          by_cases hlt : k ≤ l5.length
          · have q1 := eq_true (show (k : Int) ≤ (l5.length : Int) by omega)
            have q2 := decide_eq_true (show (k : Int) ≤ (l5.length : Int) by omega)
            obtain ⟨mk, hmk⟩ : ∃ m, tm 0 l5 (k : Int) = m := ⟨_, rfl⟩
            obtain ⟨mj, hmj⟩ : ∃ m, tm 0 l5 ((k : Int) - 1) = m := ⟨_, rfl⟩
            have hm1 := up_tm HU5.out k hk1 hlt
            rw [hmk, hmj] at hm1
            have HMK := Aside0.mk hmk
            have HMJ := Aside0.mk hmj
            have f1 : decide (mk < 1) = false := decide_eq_false (by omega)
            have f2 : decide (mk < mj) = false := decide_eq_false (by omega)
            have f3 : decide (64 < (k : Int)) = false := decide_eq_false (by omega)
            have f4 : decide (64 < k) = false := decide_eq_false (by omega)
            clear hmk hmj
            go_wp2_with (first
              | (go_at_call 35; refine (last0 (B := w.heap.size) (F := F5) (l := l5) ?hI).mono ?_; (case hI => (with_reducible repeat (first | exact HI5.out | refine IsH.alloc ?_ _ | refine IsH.drewN ?_ _ | refine IsH.drew ?_))); rintro e_ w' ⟨rfl, ⟨n_, rfl⟩⟩)
              | (go_at_call_of 36 (Value.int .i64 (k : Int)); refine (term_at (B := w.heap.size) (F := F5) (l := l5) ?hI _ mk HMK.out).mono ?_; (case hI => (with_reducible repeat (first | exact HI5.out | refine IsH.alloc ?_ _ | refine IsH.drewN ?_ _ | refine IsH.drew ?_))); rintro e_ w' ⟨rfl, ⟨n_, rfl⟩⟩)
              | (go_at_call 36; refine (term_at (B := w.heap.size) (F := F5) (l := l5) ?hI _ mj HMJ.out).mono ?_; (case hI => (with_reducible repeat (first | exact HI5.out | refine IsH.alloc ?_ _ | refine IsH.drewN ?_ _ | refine IsH.drew ?_))); rintro e_ w' ⟨rfl, ⟨n_, rfl⟩⟩))
            case roundEnd =>
              refine ⟨⟨k + 1, rfl, by omega, by omega, ⟨HLk.out.below (drawn_below (by repeat (first | exact Drawn0.refl _ | apply Drawn0.step)))⟩⟩, ?_⟩
              simp only [intOf, Int.toNat_natCast]
              omega
          · have q1 := eq_false (show ¬ (k : Int) ≤ (l5.length : Int) by omega)
            have q2 := decide_eq_false (show ¬ (k : Int) ≤ (l5.length : Int) by omega)
            go_wp2_with (first
              | (go_at_call 35; refine (last0 (B := w.heap.size) (F := F5) (l := l5) ?hI).mono ?_; (case hI => (with_reducible repeat (first | exact HI5.out | refine IsH.alloc ?_ _ | refine IsH.drewN ?_ _ | refine IsH.drew ?_))); rintro e_ w' ⟨rfl, ⟨n_, rfl⟩⟩))
            case roundEnd =>
              refine ⟨⟨i + 1, F5, l5, rfl, hlt0, ⟨HLk.out.below (drawn_below (by repeat (first | exact Drawn0.refl _ | apply Drawn0.step)))⟩, HU5⟩, ?_⟩
              simp only [intOf, Int.toNat_natCast]
              omega
      | false =>
        rw [hput] at hy0
        have HL4_ := Aside0.mk (show x.f4.length < 1000000 by have := HOK.out.2.1; omega)
        go_upto_region 12 with (fail)
        obtain ⟨wa, hwa⟩ : ∃ wa, wr.alloc (.cells #[.bool false, .int .i64 x.f1, .int .i64 x.f2, .slice A3 x.f3.length c3, .slice A4 x.f4.length c4] 54) = wa := ⟨_, rfl⟩
        have hla : Live w wa g F 0 l := by rw [← hwa]; exact HL.out.alloc _
        have hbe : wa.heap[wr.heap.size]? = some (.cells #[.bool false, .int .i64 x.f1, .int .i64 x.f2, .slice A3 x.f3.length c3, .slice A4 x.f4.length c4] 54 (0, 0)) := by rw [← hwa]; exact heap_alloc_new _ _
        rw [hwa]
        obtain ⟨gb, hgb⟩ : ∃ gb, wr.heap.size = gb := ⟨_, rfl⟩
        rw [hgb] at hbe ⊢
        have HLD := Aside0.mk (hla.drew)
        have BE := Aside0.mk (show wa.drew.heap[gb]? = _ from hbe)
        clear hla hbe hwa hy0 hy1 hy2 hy3 hy4 HL
        refine start_ (n := 8) (S := fun w' => w'.cell? ⟨gb, 2, none⟩ = some (Value.int .i64 x.f2) ∧ w'.cell? ⟨gb, 4, none⟩ = some (Value.slice A4 x.f4.length c4)) (ds := [7]) #[false, false, false, false, false, false, false, false] (by kernel_rfl) rfl rfl ⟨(blk_cell BE.out 2).trans rfl, (blk_cell BE.out 4).trans rfl⟩ (fun hHeld => ?_)
        generalize wa.drew = wd at HLD BE hHeld ⊢
        refine pure_ (i := 0) (N := some 35) (v := ?_) (a' := ?_) #[true, false, false, false, false, false, false, false] rfl rfl (by kernel_rfl) (fun _ _ _ h => h) (Or.inl ⟨by rfl, ?_⟩) ?_ ?_
        rotate_left
        · intro w'
          go_simp
          with_reducible rfl
        rotate_left
        · simp only [Act.put, List.setIfInBounds_toArray, List.set_cons_zero, List.set_cons_succ, i64_w, i32_w]
          rfl
        refine pure_ (i := 1) (N := some 36) (v := ?_) (a' := ?_) #[true, true, false, false, false, false, false, false] rfl rfl (by kernel_rfl) (fun _ _ _ h => h) (Or.inl ⟨by rfl, ?_⟩) ?_ ?_
        rotate_left
        · intro w'
          go_simp
          with_reducible rfl
        rotate_left
        · simp only [Act.put, List.setIfInBounds_toArray, List.set_cons_zero, List.set_cons_succ, i64_w, i32_w]
          rfl
        refine pure_ (i := 5) (N := some 40) (v := ?_) (a' := ?_) #[true, true, false, false, false, true, false, false] rfl rfl (by kernel_rfl) (fun _ _ _ h => h) (Or.inl ⟨by rfl, ?_⟩) ?_ ?_
        rotate_left
        · intro w'
          go_simp
          with_reducible rfl
        rotate_left
        · simp only [Act.put, List.setIfInBounds_toArray, List.set_cons_zero, List.set_cons_succ, i64_w, i32_w]
          rfl
        refine take_ (i := 2) (N := some 37) (v := ?_) (a' := ?_) #[true, true, true, false, false, true, false, false] rfl rfl (by kernel_rfl) (fun _ _ _ h => h) (Or.inl ⟨by rfl, ?_⟩) hHeld ?_ ?_
        rotate_left
        · rintro w' ⟨s0, s1⟩
          go_simp
          with_reducible rfl
        rotate_left
        · simp only [Act.put, List.setIfInBounds_toArray, List.set_cons_zero, List.set_cons_succ, i64_w, i32_w]
          rfl
        refine take_ (i := 6) (N := some 41) (v := ?_) (a' := ?_) #[true, true, true, false, false, true, true, false] rfl rfl (by kernel_rfl) (fun _ _ _ h => h) (Or.inl ⟨by rfl, ?_⟩) hHeld ?_ ?_
        rotate_left
        · rintro w' ⟨s0, s1⟩
          go_simp
          with_reducible rfl
        rotate_left
        · simp only [Act.put, List.setIfInBounds_toArray, List.set_cons_zero, List.set_cons_succ, i64_w, i32_w]
          rfl
        refine one_ (i := 3) (N := some 38) #[true, true, true, true, false, true, true, false] rfl rfl (by kernel_rfl) (by decide) (fun K hK => ?_)
        refine goes_ Try.func34 (by kernel_rfl) rfl #[.int .i64 x.f2, .int .i64 5] (by rfl) rfl rfl (by simp only [List.map_toArray, List.map_cons, List.map_nil]; rfl) ?_
        with_reducible refine (within_calls x.f2 5 _ (by omega) (by omega)).mono ?_
        rintro e_ w3 ⟨v, rfl, ⟨n3, rfl⟩, hv0, hv1⟩
        refine ⟨_, rfl, ?_⟩
        refine hK.out _ _ ⟨(blk_cell (blk_drewN BE.out n3) 2).trans rfl, (blk_cell (blk_drewN BE.out n3) 4).trans rfl⟩ (fun hHeld => ?_)
        clear hK K
        refine norm_ (a' := ?_) ?_ ?_
        rotate_left
        · show Act.put _ (some 38) _ = _
          simp only [Act.put, List.setIfInBounds_toArray, List.set_cons_zero, List.set_cons_succ, i64_w, i32_w]
          rfl
        refine pure_ (i := 4) (N := some 39) (v := ?_) (a' := ?_) #[true, true, true, true, true, true, true, false] rfl rfl (by kernel_rfl) (fun _ _ _ h => h) (Or.inl ⟨by rfl, ?_⟩) ?_ ?_
        rotate_left
        · intro w'
          go_simp
          with_reducible rfl
        rotate_left
        · simp only [Act.put, List.setIfInBounds_toArray, List.set_cons_zero, List.set_cons_succ, i64_w, i32_w]
          rfl
        refine last_ (i := 7) (N := some 42) #[true, true, true, true, true, true, true, true] rfl rfl (by kernel_rfl) (by decide) (fun K hK => ?_)
        have hl3 := HLD.out.drewN n3
        have hs3 := stable_of_C HX4.out hl3.2.2 hl3.ge
        have hwv : wrap64 (1 + v) = 1 + v := by unfold wrap64; omega
        refine goes_ Try.func33 (by kernel_rfl) rfl #[.pointer (some ⟨g, 0, none⟩), .int .i64 (wrap64 (1 + v)), .slice A4 x.f4.length c4] (by rfl) rfl rfl (by simp only [List.map_toArray, List.map_cons, List.map_nil]; rfl) ?_
        rw [hwv]
        with_reducible refine (append_live hl3 (1 + v) A4 c4 x.f4 hs3 HC4.out HL4_.out HM4.out).mono ?_
        rintro e_ w4 ⟨F4, rfl, hl_, _, _⟩
        refine ⟨_, rfl, ?_⟩
        have HL4 := Aside0.mk hl_
        have HUP := Aside0.mk (up_app (b := 0) (t := 1 + v) (es := x.f4) HU.out)
        clear hl_ hl3 hs3 hwv
        refine hK.out _ _ ?_
        clear hK K
        refine norm_ (a' := ?_) ?_ ?_
        rotate_left
        · show Act.put _ (some 42) _ = _
          simp only [Act.put, List.setIfInBounds_toArray, List.set_cons_zero, List.set_cons_succ, i64_w, i32_w]
          rfl
        refine done_ (by kernel_rfl) ?_
        clear HLD BE HU
        obtain ⟨l5, hl5⟩ : ∃ l5, (appF 0 l (1 + v) x.f4).2.2 = l5 := ⟨_, rfl⟩
        obtain ⟨F5, hF5⟩ : ∃ F5, F4 = F5 := ⟨_, rfl⟩
        rw [hl5, hF5] at HL4
        rw [hl5] at HUP
        have HL5 := HL4
        have HU5 := HUP
        clear HL4 HUP hl5 hF5
        go_wp2
        go_loopw [6] (fun v6 wr => ∃ (k : Nat), v6 = .int .i64 (k : Int) ∧ 1 ≤ k ∧ k ≤ l5.length + 1 ∧ Aside0 (Live w wr g F5 0 l5))
          (fun v6 _ => l5.length + 1 - (intOf v6).toNat)
        case atStart => exact ⟨1, rfl, by omega, by omega, HL5⟩
        case round =>
          obtain ⟨k, rfl, hk1, hk2, HLk⟩ := hrel
          have HI5 := Aside0.mk HLk.out.1
          have hb5 := HLk.out.bounds
          by_cases hlt : k ≤ l5.length
          · have q1 := eq_true (show (k : Int) ≤ (l5.length : Int) by omega)
            have q2 := decide_eq_true (show (k : Int) ≤ (l5.length : Int) by omega)
            obtain ⟨mk, hmk⟩ : ∃ m, tm 0 l5 (k : Int) = m := ⟨_, rfl⟩
            obtain ⟨mj, hmj⟩ : ∃ m, tm 0 l5 ((k : Int) - 1) = m := ⟨_, rfl⟩
            have hm1 := up_tm HU5.out k hk1 hlt
            rw [hmk, hmj] at hm1
            have HMK := Aside0.mk hmk
            have HMJ := Aside0.mk hmj
            have f1 : decide (mk < 1) = false := decide_eq_false (by omega)
            have f2 : decide (mk < mj) = false := decide_eq_false (by omega)
            have f3 : decide (64 < (k : Int)) = false := decide_eq_false (by omega)
            have f4 : decide (64 < k) = false := decide_eq_false (by omega)
            clear hmk hmj
            go_wp2_with (first
              | (go_at_call 35; refine (last0 (B := w.heap.size) (F := F5) (l := l5) ?hI).mono ?_; (case hI => (with_reducible repeat (first | exact HI5.out | refine IsH.alloc ?_ _ | refine IsH.drewN ?_ _ | refine IsH.drew ?_))); rintro e_ w' ⟨rfl, ⟨n_, rfl⟩⟩)
              | (go_at_call_of 36 (Value.int .i64 (k : Int)); refine (term_at (B := w.heap.size) (F := F5) (l := l5) ?hI _ mk HMK.out).mono ?_; (case hI => (with_reducible repeat (first | exact HI5.out | refine IsH.alloc ?_ _ | refine IsH.drewN ?_ _ | refine IsH.drew ?_))); rintro e_ w' ⟨rfl, ⟨n_, rfl⟩⟩)
              | (go_at_call 36; refine (term_at (B := w.heap.size) (F := F5) (l := l5) ?hI _ mj HMJ.out).mono ?_; (case hI => (with_reducible repeat (first | exact HI5.out | refine IsH.alloc ?_ _ | refine IsH.drewN ?_ _ | refine IsH.drew ?_))); rintro e_ w' ⟨rfl, ⟨n_, rfl⟩⟩))
            case roundEnd =>
              refine ⟨⟨k + 1, rfl, by omega, by omega, ⟨HLk.out.below (drawn_below (by repeat (first | exact Drawn0.refl _ | apply Drawn0.step)))⟩⟩, ?_⟩
              simp only [intOf, Int.toNat_natCast]
              omega
          · have q1 := eq_false (show ¬ (k : Int) ≤ (l5.length : Int) by omega)
            have q2 := decide_eq_false (show ¬ (k : Int) ≤ (l5.length : Int) by omega)
            go_wp2_with (first
              | (go_at_call 35; refine (last0 (B := w.heap.size) (F := F5) (l := l5) ?hI).mono ?_; (case hI => (with_reducible repeat (first | exact HI5.out | refine IsH.alloc ?_ _ | refine IsH.drewN ?_ _ | refine IsH.drew ?_))); rintro e_ w' ⟨rfl, ⟨n_, rfl⟩⟩))
            case roundEnd =>
              refine ⟨⟨i + 1, F5, l5, rfl, hlt0, ⟨HLk.out.below (drawn_below (by repeat (first | exact Drawn0.refl _ | apply Drawn0.step)))⟩, HU5⟩, ?_⟩
              simp only [intOf, Int.toNat_natCast]
              omega
    · have q2 := decide_eq_false (show ¬ (i : Int) < (l0.length : Int) by omega)
      have q1 := eq_false (show ¬ (i : Int) < (l0.length : Int) by omega)
      have HI5 := Aside0.mk HL.out.1
      have HT0 := Aside0.mk (tm_out 0 l 0 (by simp))
      have HT1 := Aside0.mk (tm_out 0 l ((l.length : Int) + 1) (by omega))
      have hb5 := HL.out.bounds
      go_wp2_with (first
        | (go_at_call 35; refine (last0 (B := w.heap.size) (F := F) (l := l) ?hI).mono ?_; (case hI => (with_reducible repeat (first | exact HI5.out | refine IsH.alloc ?_ _ | refine IsH.drewN ?_ _ | refine IsH.drew ?_))); rintro e_ w' ⟨rfl, ⟨n_, rfl⟩⟩)
        | (go_at_call_of 36 (Value.int .i64 0); refine (term_at (B := w.heap.size) (F := F) (l := l) ?hI 0 0 HT0.out).mono ?_; (case hI => (with_reducible repeat (first | exact HI5.out | refine IsH.alloc ?_ _ | refine IsH.drewN ?_ _ | refine IsH.drew ?_))); rintro e_ w' ⟨rfl, ⟨n_, rfl⟩⟩)
        | (go_at_call 36; refine (term_at (B := w.heap.size) (F := F) (l := l) ?hI ((l.length : Int) + 1) 0 HT1.out).mono ?_; (case hI => (with_reducible repeat (first | exact HI5.out | refine IsH.alloc ?_ _ | refine IsH.drewN ?_ _ | refine IsH.drew ?_))); rintro e_ w' ⟨rfl, ⟨n_, rfl⟩⟩))
      go_ret
      exact ⟨rfl, by repeat (first | (with_reducible first | exact HL.out.2.2 | apply pw_below_drewN | apply below_drew1) | exact HL.out.2.2)⟩

theorem open77 : Opens.Opens Try.prog k77 77 (fun _ => True) :=
  (Opens.Opens.iso (fun p : Int × Int × Int × ByteArray × List Int × Int => (⟨p.1, p.2.1, p.2.2.1, p.2.2.2.1, p.2.2.2.2.1, p.2.2.2.2.2⟩ : S77)) (fun _ => rfl) (Opens.Opens.struct Try.underlying77 (by kernel_rfl)
    (Opens.OpensF.cons (by kernel_rfl) rfl (Opens.Opens.int Try.underlying3) (Opens.OpensF.cons (by kernel_rfl) rfl (Opens.Opens.int Try.underlying3) (Opens.OpensF.cons (by kernel_rfl) rfl (Opens.Opens.int Try.underlying3) (Opens.OpensF.cons (by kernel_rfl) rfl (Opens.Opens.string Try.underlying9)
      (Opens.OpensF.cons (by kernel_rfl) rfl (Opens.Opens.slice Try.underlying24 (by kernel_rfl) (Opens.Opens.int Try.underlying3)) (Opens.OpensF.last (by kernel_rfl) (Opens.Opens.int Try.underlying3))))))))).mono (fun _ _ => trivial)
theorem open54 : Opens.Opens Try.prog k54 54 (fun _ => True) :=
  (Opens.Opens.iso (fun p : Bool × Int × Int × List Int × List S77 => (⟨p.1, p.2.1, p.2.2.1, p.2.2.2.1, p.2.2.2.2⟩ : S54)) (fun _ => rfl) (Opens.Opens.struct Try.underlying54 (by kernel_rfl)
    (Opens.OpensF.cons (by kernel_rfl) rfl (Opens.Opens.bool Try.underlying4) (Opens.OpensF.cons (by kernel_rfl) rfl (Opens.Opens.int Try.underlying3) (Opens.OpensF.cons (by kernel_rfl) rfl (Opens.Opens.int Try.underlying3) (Opens.OpensF.cons (by kernel_rfl) rfl (Opens.Opens.slice Try.underlying24 (by kernel_rfl) (Opens.Opens.int Try.underlying3))
      (Opens.OpensF.last (by kernel_rfl) (Opens.Opens.slice Try.underlying52 (by kernel_rfl) open77)))))))).mono (fun _ _ => trivial)
theorem HistTerms_row (A0 : Option Addr) (c0 : Nat) (l0 : List S54) (w : World) (hC0 : Kd.C k54 w A0 l0.length l0) (hc0 : l0.length ≤ c0) (_hm : l0.length ≤ maxLen) (_ho : ∀ a ∈ l0, True) :
    Calls Try.prog 7 #[.slice A0 l0.length c0] w fun e w' => e = .returned (.bool true) ∧ Below w.heap.size w w' := HistTerms_walk A0 c0 l0 w hC0 hc0

end Go.Proofs.Ytbomomaidglegaa.Hist
