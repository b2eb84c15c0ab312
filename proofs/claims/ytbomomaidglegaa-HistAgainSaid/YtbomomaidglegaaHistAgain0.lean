/- HistAgain, the plain law: what was put once changes nothing when it is put again, nor does a front of it; and what the law's walk carries. -/
import Derived.Test.YtbomomaidglegaaHistNear
import Derived.Deep.LoopGhost
import Derived.WalkSpells
namespace Go.Proofs.Ytbomomaidglegaa.Hist
open Go Go.RowKit Go.Proofs.Ytbomomaidglegaa.XHist Go.Proofs.YtbomomaidglegaaW.PrintWords Go.Proofs.YtbomomaidglegaaW.PrintLast Go.Proofs.YtbomomaidglegaaW.PrintMore
set_option linter.unusedVariables false
set_option linter.unusedSimpArgs false

theorem tmA_cut_lo (b : Int) (l : List S105) (j : Nat) (e : S105) (i : Int) (hj : j ≤ l.length) (hi : i ≤ b + (j : Int)) : tm b (l.take j ++ [e]) i = tm b l i := by
  unfold tm
  rw [List.length_append, List.length_take, List.length_singleton]
  by_cases h : b < i
  · obtain ⟨q, hq⟩ : ∃ q : Nat, i - b - 1 = (q : Int) := ⟨(i - b - 1).toNat, by omega⟩
    rw [if_pos ⟨h, by omega⟩, if_pos ⟨h, by omega⟩, hq]
    have h1 := rd105_at (l.take j ++ [e]) q (by rw [List.length_append, List.length_take, List.length_singleton]; omega)
    have h2 := rd105_at l q (by omega)
    rw [h1, h2, List.getElem_append_left (by rw [List.length_take]; omega), List.getElem_take]
  · rw [if_neg (fun hh => h hh.1), if_neg (fun hh => h hh.1)]
theorem tmA_cut_hi (b : Int) (l : List S105) (j : Nat) (e : S105) (hj : j ≤ l.length) : tm b (l.take j ++ [e]) (b + (j : Int) + 1) = e.f0 := by
  unfold tm
  rw [List.length_append, List.length_take, List.length_singleton, if_pos ⟨by omega, by omega⟩, show b + (j : Int) + 1 - b - 1 = (j : Int) by omega]
  have h1 := rd105_at (l.take j ++ [e]) j (by rw [List.length_append, List.length_take, List.length_singleton]; omega)
  rw [h1, List.getElem_append_right (by rw [List.length_take]; omega)]
  simp

/-- Behind k entries each of them stands at its place; ahead nothing has changed. -/
theorem putTo_has (b x : Int) (l : List S105) (ts : List Int) (es : List S77) (h1 : ∀ v ∈ ts, 1 ≤ v) (hb : b ≤ x) (hx : x ≤ b + (l.length : Int)) (hl : b + (l.length : Int) ≤ 64) (hn : x + (ts.length : Int) ≤ 64) :
    ∀ k : Nat, k ≤ ts.length → (∀ i : Int, i ≤ x → tm b (putTo b x l ts es k) i = tm b l i) ∧ ∀ j : Nat, j < k → tm b (putTo b x l ts es k) (x + 1 + (j : Int)) = rd ts (j : Int) := by
  intro k
  induction k with
  | zero => intro _; exact ⟨fun i _ => rfl, fun j hj => absurd hj (Nat.not_lt_zero _)⟩
  | succ k ih =>
    intro hk
    have ⟨i1, i2⟩ := ih (by omega)
    have hbd := putTo_bounds b x l ts es h1 hb hx hl hn k (by omega)
    simp only [putTo]
    generalize putTo b x l ts es k = c at i1 i2 hbd ⊢
    obtain ⟨q, hq⟩ : ∃ q : Nat, x + (k : Int) - b = (q : Int) := ⟨(x + (k : Int) - b).toNat, by omega⟩
    split
    · rename_i he
      refine ⟨i1, fun j hj => ?_⟩
      by_cases hjk : j = k
      · subst hjk; exact he
      · exact i2 j (by omega)
    · rename_i he
      rw [hq, Int.toNat_natCast]
      refine ⟨fun i hi => ?_, fun j hj => ?_⟩
      · rw [tmA_cut_lo b c q _ i (by omega) (by omega)]
        exact i1 i hi
      · by_cases hjk : j = k
        · subst hjk
          rw [show x + 1 + (j : Int) = b + (q : Int) + 1 by omega, tmA_cut_hi b c q _ (by omega)]
        · rw [tmA_cut_lo b c q _ _ (by omega) (by omega)]
          exact i2 j (by omega)

/-- What stands there stays. -/
theorem putTo_stays (b x : Int) (l : List S105) (ts : List Int) (es : List S77) : ∀ k : Nat, (∀ j : Nat, j < k → tm b l (x + 1 + (j : Int)) = rd ts (j : Int)) → putTo b x l ts es k = l := by
  intro k
  induction k with
  | zero => intro _; rfl
  | succ k ih =>
    intro h
    simp only [putTo]
    rw [ih (fun j hj => h j (by omega)), if_pos (h k (by omega))]

theorem rise_take : ∀ (ts : List Int) (t : Int) (k : Nat), rise t ts = true → rise t (ts.take k) = true := by
  intro ts
  induction ts with
  | nil => intro t k h; simpa using h
  | cons a r ih =>
    intro t k h
    cases k with
    | zero => rfl
    | succ k =>
      simp only [rise, List.take_succ_cons] at h ⊢
      split at h
      · cases h
      · rename_i hn
        rw [if_neg hn]
        exact ih a k h

theorem rd_take (ts : List Int) (k j : Nat) (h : j < k) : rd (ts.take k) (j : Int) = rd ts (j : Int) := by
  simp [rd, List.getD, h]

/-- What was put once changes nothing when it, or a front of it, is put again. -/
theorem put_again {b x t : Int} {l : List S105} {ts : List Int} {es : List S77} (hl : b + (l.length : Int) ≤ 64) (h : (putF b l x t ts es).2.1 = 0) :
    (putF b l x t ts es).1 = x + (es.length : Int) ∧ ts.length = es.length ∧ x + (es.length : Int) ≤ 64 ∧ b ≤ x ∧ ∀ k : Nat, k ≤ es.length → putF b (putF b l x t ts es).2.2 x t (ts.take k) (es.take k) = (x + (k : Int), 0, (putF b l x t ts es).2.2) := by
  by_cases c1 : ts.length ≠ es.length ∨ rise t ts = false ∨ x < b
  · unfold putF at h; rw [if_pos c1] at h; cases h
  by_cases c2 : b + (l.length : Int) < x ∨ b < x ∧ tm b l x ≠ t
  · unfold putF at h; rw [if_neg c1, if_pos c2] at h; cases h
  by_cases c3 : (es.length : Int) > 64 - x
  · unfold putF at h; rw [if_neg c1, if_neg c2, if_pos c3] at h; cases h
  have hP : putF b l x t ts es = (x + (es.length : Int), 0, putTo b x l ts es es.length) := by unfold putF; rw [if_neg c1, if_neg c2, if_neg c3]
  rw [hP]
  have hlen : ts.length = es.length := by
    by_cases e : ts.length = es.length
    · exact e
    · exact absurd (.inl e) c1
  have hr : rise t ts = true := by
    cases e : rise t ts
    · exact absurd (.inr (.inl e)) c1
    · rfl
  have hbx : b ≤ x := by
    by_cases e : x < b
    · exact absurd (.inr (.inr e)) c1
    · omega
  have hxl : x ≤ b + (l.length : Int) := by
    by_cases e : b + (l.length : Int) < x
    · exact absurd (.inl e) c2
    · omega
  have htm : b < x → tm b l x = t := fun hb => by
    by_cases e : tm b l x = t
    · exact e
    · exact absurd (.inr ⟨hb, e⟩) c2
  have hpos := rise_pos ts t hr
  have hbd := putTo_bounds b x l ts es hpos hbx hxl hl (by omega) es.length (by omega)
  have ⟨g1, g2⟩ := putTo_has b x l ts es hpos hbx hxl hl (by omega) es.length (by omega)
  refine ⟨rfl, hlen, by omega, hbx, fun k hk => ?_⟩
  show putF b (putTo b x l ts es es.length) x t (ts.take k) (es.take k) = (x + (k : Int), 0, putTo b x l ts es es.length)
  generalize putTo b x l ts es es.length = c at hbd g1 g2 ⊢
  have hlk : (es.take k).length = k := by rw [List.length_take]; omega
  have hlt : (ts.take k).length = k := by rw [List.length_take]; omega
  unfold putF
  rw [if_neg (by rw [hlk, hlt, rise_take ts t k hr]; simp; omega), if_neg (by rw [g1 x (Int.le_refl _)]; intro h; rcases h with h | h; omega; exact h.2 (htm h.1)), if_neg (by rw [hlk]; omega), hlk]
  rw [putTo_stays b x c (ts.take k) (es.take k) k (fun j hj => by rw [rd_take ts k j hj]; exact g2 j (by omega))]

theorem putTo_all {p : S77 → Prop} (b x : Int) (l : List S105) (ts : List Int) (es : List S77) (hl : ∀ y ∈ l, p y.f1) (he : ∀ e ∈ es, p e) : ∀ k : Nat, k ≤ es.length → ∀ y ∈ putTo b x l ts es k, p y.f1 := by
  intro k
  induction k with
  | zero => intro _; exact hl
  | succ k ih =>
    intro hk y hy
    have hi := ih (by omega)
    simp only [putTo] at hy
    split at hy
    · exact hi y hy
    · rcases List.mem_append.1 hy with hy | hy
      · exact hi y (List.mem_of_mem_take hy)
      · simp only [List.mem_singleton] at hy
        subst hy
        show p (rd_T77 es (k : Int))
        rw [rd77_at es k (by omega)]
        exact he _ (List.getElem_mem _)
theorem put_all {p : S77 → Prop} {b x t : Int} {l : List S105} {ts : List Int} {es : List S77} (hl : ∀ y ∈ l, p y.f1) (he : ∀ e ∈ es, p e) : ∀ y ∈ (putF b l x t ts es).2.2, p y.f1 := by
  unfold putF
  split
  · exact hl
  · split
    · exact hl
    · split
      · exact hl
      · exact putTo_all b x l ts es hl he es.length (Nat.le_refl _)

/-! ### What the walk carries -/
/-- A log and the document's log, apart. -/
def St (w W : World) (g : Nat) (F : Nat → Prop) (l : List S105) (gx : Nat) (FX : Nat → Prop) (ts : List Int) (es : List S77) : Prop :=
  Live w W g F 0 l ∧ IsY w.heap.size W gx FX 0 ts es ∧ ∀ q, F q → ¬ FX q
theorem IsY.lt {B : Nat} {W : World} {g : Nat} {F : Nat → Prop} {b : Int} {ts : List Int} {es : List S77} (h : IsY B W g F b ts es) : ∀ q, F q → q < W.heap.size := by
  obtain ⟨_, _, _, _, _, _, _, hL, _⟩ := h
  exact hL
theorem IsY.ge {B : Nat} {W : World} {g : Nat} {F : Nat → Prop} {b : Int} {ts : List Int} {es : List S77} (h : IsY B W g F b ts es) : ∀ q, F q → B ≤ q := by
  obtain ⟨_, _, _, _, _, _, hF, _⟩ := h
  exact hF
section
variable {w W W' : World} {g : Nat} {F : Nat → Prop} {l : List S105} {gx : Nat} {FX : Nat → Prop} {ts : List Int} {es : List S77}
theorem St.below (h : St w W g F l gx FX ts es) (hb : Below W.heap.size W W') : St w W' g F l gx FX ts es := ⟨h.1.below hb, h.2.1.below hb, h.2.2⟩
theorem St.kept {K : Nat → Prop} (h : St w W g F l gx FX ts es) (hk : Kept K W W') (h1 : ∀ q, K q → ¬ F q ∧ ¬ FX q) (h2 : ∀ q, K q → w.heap.size ≤ q) : St w W' g F l gx FX ts es :=
  ⟨h.1.kept hk (fun q hf hq => (h1 q hq).1 hf) h2, h.2.1.kept hk (fun q hf hq => (h1 q hq).2 hf), h.2.2⟩
theorem St.putH (h : St w W g F l gx FX ts es) {F' : Nat → Prop} {l' : List S105} (hl : Live w W' g F' 0 l') (hF : ∀ q, F' q → F q ∨ W.heap.size ≤ q) (hk : Kept F W W') : St w W' g F' l' gx FX ts es :=
  ⟨hl, h.2.1.kept hk (fun q hx hf => h.2.2 q hf hx), fun q hq hx => (hF q hq).elim (fun hf => h.2.2 q hf hx) (fun hge => Nat.lt_irrefl _ (Nat.lt_of_lt_of_le (h.2.1.lt q hx) hge))⟩
theorem St.putX (h : St w W g F l gx FX ts es) {FX' : Nat → Prop} {ts' : List Int} {es' : List S77} (hl : IsY w.heap.size W' gx FX' 0 ts' es') (hF : ∀ q, FX' q → FX q ∨ W.heap.size ≤ q) (hk : Kept FX W W') : St w W' g F l gx FX' ts' es' :=
  ⟨h.1.kept hk (fun q hf hx => h.2.2 q hf hx) h.2.1.ge, hl, fun q hq hx => (hF q hx).elim (fun hf => h.2.2 q hq hf) (fun hge => Nat.lt_irrefl _ (Nat.lt_of_lt_of_le (h.1.lt q hq) hge))⟩
/-- Apart from both. -/
def Off (W : World) (F FX : Nat → Prop) (q : Nat) : Prop := ¬ F q ∧ ¬ FX q ∧ q < W.heap.size
theorem Off.size {q : Nat} (h : Off W F FX q) (hz : W.heap.size ≤ W'.heap.size) : Off W' F FX q := ⟨h.1, h.2.1, Nat.lt_of_lt_of_le h.2.2 hz⟩
theorem Off.putH {q : Nat} (h : Off W F FX q) {F' : Nat → Prop} (hF : ∀ q, F' q → F q ∨ W.heap.size ≤ q) (hz : W.heap.size ≤ W'.heap.size) : Off W' F' FX q :=
  ⟨fun hf => (hF q hf).elim h.1 (fun hge => Nat.lt_irrefl _ (Nat.lt_of_lt_of_le h.2.2 hge)), h.2.1, Nat.lt_of_lt_of_le h.2.2 hz⟩
theorem Off.putX {q : Nat} (h : Off W F FX q) {FX' : Nat → Prop} (hF : ∀ q, FX' q → FX q ∨ W.heap.size ≤ q) (hz : W.heap.size ≤ W'.heap.size) : Off W' F FX' q :=
  ⟨h.1, fun hf => (hF q hf).elim h.2.1 (fun hge => Nat.lt_irrefl _ (Nat.lt_of_lt_of_le h.2.2 hge)), Nat.lt_of_lt_of_le h.2.2 hz⟩
theorem St.off_new (h : St w W g F l gx FX ts es) {q : Nat} (hq : W.heap.size ≤ q) (hz : q < W'.heap.size) : Off W' F FX q :=
  ⟨fun hf => Nat.lt_irrefl _ (Nat.lt_of_lt_of_le (h.1.lt q hf) hq), fun hf => Nat.lt_irrefl _ (Nat.lt_of_lt_of_le (h.2.1.lt q hf) hq), hz⟩
end
section
variable {α : Type} {d : Kd α} {e B : Nat} {W W' : World} {F FX : Nat → Prop} {v : Value} {xs : List α}
/-- A row of its own apart from both logs. -/
def Rw {α : Type} (d : Kd α) (e : Nat) (W : World) (B : Nat) (F FX : Nat → Prop) (v : Value) (xs : List α) : Prop := d.R e W B (Off W F FX) v xs
theorem Rw.below (h : Rw d e W B F FX v xs) (hb : Below W.heap.size W W') : Rw d e W' B F FX v xs := Kd.R_mono (Kd.R_below h hb) (fun _ hq => hq.size hb.size)
theorem Rw.kept {K : Nat → Prop} (h : Rw d e W B F FX v xs) (hk : Kept K W W') (h1 : ∀ q, K q → F q ∨ FX q) : Rw d e W' B F FX v xs := Kd.R_mono (R_kept_ h hk (fun q hq hK => (h1 q hK).elim hq.1 hq.2.1)) (fun _ hq => hq.size hk.size)
theorem Rw.putH (h : Rw d e W B F FX v xs) {F' : Nat → Prop} (hF : ∀ q, F' q → F q ∨ W.heap.size ≤ q) (hk : Kept F W W') : Rw d e W' B F' FX v xs := Kd.R_mono (R_kept_ h hk (fun q hq hf => hq.1 hf)) (fun _ hq => hq.putH hF hk.size)
theorem Rw.putX (h : Rw d e W B F FX v xs) {FX' : Nat → Prop} (hF : ∀ q, FX' q → FX q ∨ W.heap.size ≤ q) (hk : Kept FX W W') : Rw d e W' B F FX' v xs := Kd.R_mono (R_kept_ h hk (fun q hq hf => hq.2.1 hf)) (fun _ hq => hq.putX hF hk.size)
theorem Rw.stH {A : Option Addr} {n c : Nat} (h : Rw d e W B F FX (.slice A n c) xs) : ∀ W', Kept F W W' → d.C W' A xs.length xs := fun W' hk => (Kd.R_reads' (R_kept_ h hk (fun q hq hf => hq.1 hf))).2.2
theorem Rw.stX {A : Option Addr} {n c : Nat} (h : Rw d e W B F FX (.slice A n c) xs) : ∀ W', Kept FX W W' → d.C W' A xs.length xs := fun W' hk => (Kd.R_reads' (R_kept_ h hk (fun q hq hf => hq.2.1 hf))).2.2
end
theorem C_front {α : Type} {d : Kd α} {W : World} {A : Option Addr} {xs : List α} {n : Nat} (h : d.C W A xs.length xs) (j : Nat) (hj : j ≤ xs.length) (hn : n = j) : d.C W A n (xs.take j) := by
  subst hn
  have := Kd.C_take h (m := n) hj
  rwa [show (xs.take n).length = n by rw [List.length_take]; omega] at this

/-- few, told once for each list. -/
theorem few_dec (l : List S54) : ∃ r : Bool, (r = true → l.length ≤ 60 ∧ ∀ x ∈ l, Ok1 x) ∧ ∀ (A : Option Addr) (c : Nat) (w : World), Kd.C k54 w A l.length l → l.length ≤ c →
    Calls Try.prog 30 #[.slice A l.length c] w fun e w' => e = .returned (.bool r) ∧ Drawn0 w w' := by
  obtain ⟨k, r, hk, hr⟩ := few_l0 l l.length 0 (by omega) (by omega)
  exact ⟨r, fun h => ⟨(hr h).1, fun x hx => (hr h).2 x (by simpa using hx)⟩, fun A c w hC hc => synodallaw10_few.calls k A c l r w hC hc hk⟩
/-- A block of one element is read. -/
theorem C_one {α : Type} {d : Kd α} {e : Nat} {w : World} {H : Nat} {x : α} {cs : List Value} (h : w.heap[H]? = some (.cells cs.toArray e (0, 0))) (hK : d.K w x cs) : Kd.C d w (some ⟨H, 0, none⟩) [x].length [x] := by
  refine ⟨rfl, by simp, fun _ => ⟨⟨H, 0, none⟩, rfl, fun j p hj => ?_⟩⟩
  cases j with
  | succ j => simp at hj
  | zero =>
    obtain rfl : x = p := by simpa using hj
    refine ⟨cs, d.K_len hK, hK, fun i u hu => ?_⟩
    rw [add_plain, blk_cell h]
    simpa using hu
/-- A block of its own apart from both logs. -/
def Bk (W : World) (F FX : Nat → Prop) (q : Nat) (cs : Array Value) (t : Nat) : Prop := W.heap[q]? = some (.cells cs t (0, 0)) ∧ ¬ F q ∧ ¬ FX q
section
variable {W W' : World} {F FX : Nat → Prop} {q : Nat} {cs : Array Value} {t : Nat}
theorem Bk.below (h : Bk W F FX q cs t) (hb : Below W.heap.size W W') : Bk W' F FX q cs t := ⟨blk_below h.1 hb, h.2⟩
theorem Bk.kept {K : Nat → Prop} (h : Bk W F FX q cs t) (hk : Kept K W W') (hK : ¬ K q) : Bk W' F FX q cs t := ⟨blk_kept hk h.1 hK, h.2⟩
theorem Bk.putH (h : Bk W F FX q cs t) {F' : Nat → Prop} (hF : ∀ q, F' q → F q ∨ W.heap.size ≤ q) (hk : Kept F W W') : Bk W' F' FX q cs t :=
  ⟨blk_kept hk h.1 h.2.1, fun hf => (hF q hf).elim h.2.1 (fun hge => Nat.lt_irrefl _ (Nat.lt_of_lt_of_le (blk_lt h.1) hge)), h.2.2⟩
theorem Bk.putX (h : Bk W F FX q cs t) {FX' : Nat → Prop} (hF : ∀ q, FX' q → FX q ∨ W.heap.size ≤ q) (hk : Kept FX W W') : Bk W' F FX' q cs t :=
  ⟨blk_kept hk h.1 h.2.2, h.2.1, fun hf => (hF q hf).elim h.2.2 (fun hge => Nat.lt_irrefl _ (Nat.lt_of_lt_of_le (blk_lt h.1) hge))⟩
end
theorem sets5 (W : World) (g : Nat) (t : Nat) (a0 a1 a2 a3 a4 v0 v1 v2 v3 v4 : Value) (h : W.heap[g]? = some (.cells #[a0, a1, a2, a3, a4] t (0, 0))) :
    (((((W.setCell ⟨g, 0, none⟩ v0).setCell ⟨g, 1, none⟩ v1).setCell ⟨g, 2, none⟩ v2).setCell ⟨g, 3, none⟩ v3).setCell ⟨g, 4, none⟩ v4).heap[g]? = some (.cells #[v0, v1, v2, v3, v4] t (0, 0)) ∧
      Kept (fun q => q = g) W (((((W.setCell ⟨g, 0, none⟩ v0).setCell ⟨g, 1, none⟩ v1).setCell ⟨g, 2, none⟩ v2).setCell ⟨g, 3, none⟩ v3).setCell ⟨g, 4, none⟩ v4) := by
  refine ⟨?_, ?_⟩
  · exact blk_put_ (cs := #[v0, v1, v2, v3, a4]) (blk_put_ (cs := #[v0, v1, v2, a3, a4]) (blk_put_ (cs := #[v0, v1, a2, a3, a4]) (blk_put_ (cs := #[v0, a1, a2, a3, a4]) (blk_put_ (cs := #[a0, a1, a2, a3, a4]) h 0 v0 rfl) 1 v1 rfl) 2 v2 rfl) 3 v3 rfl) 4 v4 rfl
  · exact ((((kept_set (F := fun q => q = g) W ⟨g, 0, none⟩ v0 rfl).trans (fun q hq => .inl hq) (kept_set (F := fun q => q = g) _ ⟨g, 1, none⟩ v1 rfl)).trans (fun q hq => .inl hq) (kept_set (F := fun q => q = g) _ ⟨g, 2, none⟩ v2 rfl)).trans (fun q hq => .inl hq) (kept_set (F := fun q => q = g) _ ⟨g, 3, none⟩ v3 rfl)).trans (fun q hq => .inl hq) (kept_set (F := fun q => q = g) _ ⟨g, 4, none⟩ v4 rfl)
theorem putn_live {w0 W : World} {g : Nat} {F : Nat → Prop} {b : Int} {l : List S105} (h : Live w0 W g F b l) (x t : Int) (At : Option Addr) (n ct : Nat) (ts : List Int) (A : Option Addr) (m c : Nat) (es : List S77) (hn : ts.length = n) (hm' : es.length = m)
    (hT : ∀ W', Kept F W W' → Kd.C (Kd.int .i64) W' At n ts) (hct : n ≤ ct) (hlt : n < 1000000)
    (hE : ∀ W', Kept F W W' → Kd.C k77 W' A m es) (hc : m ≤ c) (hl : m < 1000000) (hm : ∀ x ∈ es, x.f4.length < 17592186044416) :
    Calls Try.prog 32 #[.pointer (some ⟨g, 0, none⟩), .int .i64 x, .int .i64 t, .slice At n ct, .slice A m c] W fun e w' => ∃ (F' : Nat → Prop), e = .returned (.tuple #[.int .i64 (putF b l x t ts es).1, .int .i64 (putF b l x t ts es).2.1]) ∧
      Live w0 w' g F' b (putF b l x t ts es).2.2 ∧ (∀ q, F' q → F q ∨ W.heap.size ≤ q) ∧ Kept F W w' := by
  subst hn
  subst hm'
  exact put_live h x t At ct ts A c es hT hct hlt hE hc hl hm
theorem yputn_calls {B : Nat} {W : World} {g : Nat} {F : Nat → Prop} {b : Int} {ts : List Int} {es : List S77} (h : IsY B W g F b ts es) (hBW : B ≤ W.heap.size) (x t : Int) (At : Option Addr) (n ct : Nat) (l : List Int) (A : Option Addr) (m c : Nat) (el : List S77) (hn : l.length = n) (hm : el.length = m)
    (hT : ∀ W', Kept F W W' → Kd.C (Kd.int .i64) W' At n l) (hlt : n < 1000000)
    (hE : ∀ W', Kept F W W' → Kd.C k77 W' A m el) (hl : m < 1000000) :
    Calls Try.prog 41 #[.pointer (some ⟨g, 0, none⟩), .int .i64 x, .int .i64 t, .slice At n ct, .slice A m c] W (YPost B W g F b) := by
  subst hn
  subst hm
  exact yput_calls h hBW x t At ct l A c el hT hlt hE hl
theorem C_frontAll {α : Type} {d : Kd α} {W : World} {K : Nat → Prop} {A : Option Addr} {xs : List α} {n : Nat} (h : ∀ W', Kept K W W' → d.C W' A n xs) (hn : xs.length = n) (j : Nat) (hj : j ≤ n) : ∀ W', Kept K W W' → d.C W' A j (xs.take j) := fun W' hk => by
  subst hn
  exact C_front (h W' hk) j hj rfl
end Go.Proofs.Ytbomomaidglegaa.Hist
