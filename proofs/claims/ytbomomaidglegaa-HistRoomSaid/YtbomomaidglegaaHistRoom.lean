/- HistRoom: a log has room up to MaxLog, base counted; one more is refused, and changes nothing. -/
import Derived.Test.YtbomomaidglegaaHistGrown
import Derived.Deep.LoopGhost
import Derived.WalkSpells
namespace Go.Proofs.Ytbomomaidglegaa.Hist
open Go Go.RowKit Go.Proofs.Ytbomomaidglegaa.XHist Go.Proofs.YtbomomaidglegaaW.PrintWords Go.Proofs.YtbomomaidglegaaW.PrintLast Go.Proofs.YtbomomaidglegaaW.PrintMore
set_option linter.unusedVariables false
set_option linter.unusedSimpArgs false


theorem info77 : (Try.prog.info? 77).map (fun i => (i.zero, i.size, i.bytes)) = some (some (.agg #[.int .i64 0, .int .i64 0, .int .i64 0, .string ⟨#[]⟩, .slice none 0 0, .int .i64 0]), 6, 72) := by kernel_rfl

theorem ones_l (a : Int) (h1 : a ≤ 1000) (d : Nat) : ∀ (k i : Nat) (xs : List Int), (i : Int) ≤ a → (a - i).toNat = d → d < k → xs.length = i → (∀ x ∈ xs, x = 9) →
    ∃ r, synodallaw10_ones.l0 k a xs (i : Int) = some r ∧ (r.length : Int) = a ∧ ∀ x ∈ r, x = 9 := by
  induction d with
  | zero =>
    intro k i xs h2 h3 h4 h5 h6
    obtain ⟨k, rfl⟩ : ∃ m, k = m + 1 := ⟨k - 1, by omega⟩
    refine ⟨xs, ?_, by omega, h6⟩
    simp only [synodallaw10_ones.l0]
    rw [if_neg (by omega)]
  | succ d ih =>
    intro k i xs h2 h3 h4 h5 h6
    obtain ⟨k, rfl⟩ : ∃ m, k = m + 1 := ⟨k - 1, by omega⟩
    have hn : wrap64 ((i : Int) + 1) = ((i + 1 : Nat) : Int) := by unfold wrap64; omega
    obtain ⟨r, hr, h7⟩ := ih k (i + 1) (xs ++ [9]) (by omega) (by omega) (by omega) (by rw [List.length_append, h5]; rfl) (by
      intro x hx
      rcases List.mem_append.1 hx with hx | hx
      · exact h6 x hx
      · simpa using hx)
    refine ⟨r, ?_, h7⟩
    simp only [synodallaw10_ones.l0]
    rw [if_pos (by omega), if_pos (by omega), hn]
    exact hr
theorem ones_calls (a : Int) (w : World) (h0 : 0 ≤ a) (h1 : a ≤ 1000) : Calls Try.prog 37 #[.int .i64 a] w fun e w' => ∃ (A : Option Addr) (c : Nat) (ts : List Int), e = .returned (.slice A ts.length c) ∧
    Kd.R (Kd.int .i64) 3 w' w.heap.size (fun _ => True) (.slice A ts.length c) ts ∧ Below w.heap.size w w' ∧ (ts.length : Int) = a ∧ ∀ x ∈ ts, x = 9 := by
  obtain ⟨r, hr, h2, h3⟩ := ones_l a h1 a.toNat (a.toNat + 1) 0 [] h0 (by simp) (by omega) rfl (by simp)
  refine (synodallaw10_ones.calls (a.toNat + 1) a r w hr).mono ?_
  rintro e w' ⟨v0, rfl, hR, hb⟩
  obtain ⟨A, c, rfl⟩ := Kd.R_slice hR
  exact ⟨A, c, r, rfl, hR, hb, h2, h3⟩
theorem rise9 : ∀ (ts : List Int) (m : Int), m ≤ 9 → (∀ x ∈ ts, x = 9) → rise m ts = true := by
  intro ts
  induction ts with
  | nil => intro m _ _; rfl
  | cons a r ih =>
    intro m hm h
    have ha := h a (by simp)
    subst ha
    simp only [rise]
    rw [if_neg (by omega)]
    exact ih 9 (by omega) (fun x hx => h x (by simp [hx]))
theorem app_room1 (es : List S77) (v0 v1 : Int) (hl : (es.length : Int) = v1) (h : v0 + v1 ≤ 64) : appF v0 [] 1 es = (v0 + v1, 0, appL 1 es) := by
  unfold appF
  rw [tm_out _ _ _ (by simp), if_neg (by omega), if_neg (by simp; omega)]
  simp [hl]
theorem tm1 (es : List S77) (v0 : Int) : ¬ ((2 : Int) < 1 ∨ 2 < tm v0 (appL 1 es) (v0 + ((appL 1 es).length : Int))) := by
  rcases tm_case v0 (appL 1 es) (v0 + ((appL 1 es).length : Int)) with h | ⟨x, hx, h⟩
  · omega
  · simp only [appL, List.mem_map] at hx
    obtain ⟨y, _, rfl⟩ := hx
    simp only at h
    omega
theorem app_room2 (es es' : List S77) (v0 v1 v2 : Int) (h1 : (es.length : Int) = v1) (h2 : (es'.length : Int) = v2) (h : v0 + v1 + v2 ≤ 64) : appF v0 (appL 1 es) 2 es' = (v0 + v1 + v2, 0, appL 1 es ++ appL 2 es') := by
  unfold appF
  rw [if_neg (tm1 es v0), if_neg (by rw [appL_length]; omega), appL_length, h1, h2]
theorem app_room3 (es es' : List S77) (v0 v1 v2 : Int) (h1 : (es.length : Int) = v1) (h2 : (es'.length : Int) = v2) (h : ¬ v0 + v1 + v2 ≤ 64) : appF v0 (appL 1 es) 2 es' = (0, 14, appL 1 es) := by
  unfold appF
  rw [if_neg (tm1 es v0), if_pos (by rw [appL_length]; omega)]
theorem put_full (b : Int) (l : List S105) (x m : Int) (ts : List Int) (es : List S77) (hx : x = b + (l.length : Int)) (hm : tm b l x = m) (h1 : (ts.length : Int) = (es.length : Int)) (h2 : rise m ts = true) (h3 : (es.length : Int) > 64 - x) (hb : 0 ≤ b) : putF b l x m ts es = (0, 14, l) := by
  unfold putF
  rw [if_neg (by rw [h2]; simp; omega), if_neg (by rw [hm]; simp; omega), if_pos h3]

theorem t6b (es : List S77) : ∀ x ∈ appL 1 es, x.f0 ≤ 2 := by
  intro x hx
  simp only [appL, List.mem_map] at hx
  obtain ⟨y, _, rfl⟩ := hx
  simp only
  omega
theorem t6a (es es' : List S77) : ∀ x ∈ appL 1 es ++ appL 2 es', x.f0 ≤ 2 := by
  intro x hx
  rcases List.mem_append.1 hx with hx | hx
  · exact t6b es x hx
  · simp only [appL, List.mem_map] at hx
    obtain ⟨y, _, rfl⟩ := hx
    simp only
    omega

set_option maxHeartbeats 8000000 in
set_option maxRecDepth 100000 in
theorem HistRoom_walk (a0 a1 a2 : Int) (w : World) (_w0 : (Lit.int .i64 a0).wf = true) (_w1 : (Lit.int .i64 a1).wf = true) (_w2 : (Lit.int .i64 a2).wf = true) :
    Calls Try.prog 8 #[.int .i64 a0, .int .i64 a1, .int .i64 a2] w fun e w' => e = .returned (.bool true) ∧ Below w.heap.size w w' := by
  clear _w0 _w1 _w2
  go_enter Try.func8, Try.ntmps8
  go_upto_region 8 with (first
    | (go_at_call 29; refine (known_calls _).mono ?_; rintro e_ w1 ⟨rfl, hb1⟩; have HB1 := Aside0.mk hb1; clear hb1)
    | (go_at_call_of 34 (Value.int .i64 a0); refine (within_calls a0 (64) _ (by omega) (by omega)).mono ?_; rintro e_ w' ⟨v0, rfl, ⟨n_, rfl⟩, hv00, hv01⟩)
    | (go_at_call_of 34 (Value.int .i64 a1); refine (within_calls a1 (64 - v0 + 1) _ (by omega) (by omega)).mono ?_; rintro e_ w' ⟨v1, rfl, ⟨n_, rfl⟩, hv10, hv11⟩)
    | (go_at_call_of 34 (Value.int .i64 a2); refine (within_calls a2 (12) _ (by omega) (by omega)).mono ?_; rintro e_ w' ⟨v2, rfl, ⟨n_, rfl⟩, hv20, hv21⟩)
    | (go_at_call 31; refine (new_live w v0 hv00 (by omega) (pw_below_drewN HB1.out _)).mono ?_; rintro e_ w2 ⟨g, F2, rfl, hl_, _, _⟩; have HL2 := Aside0.mk hl_; clear hl_)
    | ((with_reducible refine gate_dst (N := 31) rfl ?_); refine Kd.R_make k77 _ 77 ?hg (N := 31) ?hd 52 (.tmp 30) (.tmp 30) ?ho (v1) ?hx ?hy Try.underlying52 (.agg #[.int .i64 0, .int .i64 0, .int .i64 0, .string ⟨#[]⟩, .slice none 0 0, .int .i64 0]) 72 info77 rfl (by decide) (by decide) z77 (ok := fun _ => True) (okp := fun _ => False) (k77_mkM _ _ _ z77 (Kd.R_nil _ _ _ _ _)) (fun _ _ => trivial) trivial ?h0 ?hl (Below.refl _ _) (Nat.le_refl _) ?_; (case hg => rfl); (case hd => rfl); (case ho => rfl); (case hx => rfl); (case hy => rfl); (case h0 => omega); (case hl => omega); intro r3 w3 hr_ hb_ hg_ hn_; clear hg_ hn_; obtain ⟨es1, hes_⟩ : ∃ es, List.replicate (v1).toNat z77 = es := ⟨_, rfl⟩; rw [hes_] at hr_; have hlees1 : (es1.length : Int) = v1 := (by rw [← hes_, List.length_replicate]; omega); have HMes1 := Aside0.mk (show ∀ x ∈ es1, x.f4.length < 17592186044416 by intro x hx; rw [← hes_] at hx; rw [List.eq_of_mem_replicate hx]; decide); clear hes_; have HL3 := Aside0.mk ((HL2.out.drewN _).below hb_); have HR3 := Aside0.mk hr_; clear hr_ hb_; obtain ⟨A3, c3, e3_⟩ := Kd.R_slice HR3.out; subst e3_)
    | (go_at_call_of 33 (Value.int .i64 1); refine (append_live HL3.out 1 A3 c3 es1 (stable_of_R HR3.out (fun q hq => HL2.out.lt q hq)) (Kd.R_reads' HR3.out).2.1 (by omega) HMes1.out).mono ?_; rintro e_ w4 ⟨F4, rfl, hl_, _, _⟩; rw [app_room1 es1 v0 v1 hlees1 (by omega)]; rw [app_room1 es1 v0 v1 hlees1 (by omega)] at hl_; have HL4 := Aside0.mk hl_; clear hl_ HL2 HL3 HR3))
  by_cases hfit : v0 + v1 + v2 ≤ 64
  · have d1 : decide (v0 + v1 + v2 ≤ 64) = true := decide_eq_true hfit
    go_wp2_with (first
    | ((with_reducible refine gate_dst (N := 38) rfl ?_); refine Kd.R_make k77 _ 77 ?hg (N := 38) ?hd 52 (.tmp 37) (.tmp 37) ?ho (v2) ?hx ?hy Try.underlying52 (.agg #[.int .i64 0, .int .i64 0, .int .i64 0, .string ⟨#[]⟩, .slice none 0 0, .int .i64 0]) 72 info77 rfl (by decide) (by decide) z77 (ok := fun _ => True) (okp := fun _ => False) (k77_mkM _ _ _ z77 (Kd.R_nil _ _ _ _ _)) (fun _ _ => trivial) trivial ?h0 ?hl (Below.refl _ _) (Nat.le_refl _) ?_; (case hg => rfl); (case hd => rfl); (case ho => rfl); (case hx => rfl); (case hy => rfl); (case h0 => omega); (case hl => omega); intro r5 w5 hr_ hb_ hg_ hn_; clear hg_ hn_; obtain ⟨es2, hes_⟩ : ∃ es, List.replicate (v2).toNat z77 = es := ⟨_, rfl⟩; rw [hes_] at hr_; have hlees2 : (es2.length : Int) = v2 := (by rw [← hes_, List.length_replicate]; omega); have HMes2 := Aside0.mk (show ∀ x ∈ es2, x.f4.length < 17592186044416 by intro x hx; rw [← hes_] at hx; rw [List.eq_of_mem_replicate hx]; decide); clear hes_; have HL5 := Aside0.mk (HL4.out.below hb_); have HR5 := Aside0.mk hr_; clear hr_ hb_; obtain ⟨A5, c5, e5_⟩ := Kd.R_slice HR5.out; subst e5_)
    | (go_at_call_of 33 (Value.int .i64 2); refine (append_live HL5.out 2 A5 c5 es2 (stable_of_R HR5.out (fun q hq => HL4.out.lt q hq)) (Kd.R_reads' HR5.out).2.1 (by omega) HMes2.out).mono ?_; rintro e_ w6 ⟨F6, rfl, hl_, _, _⟩; rw [app_room2 es1 es2 v0 v1 v2 hlees1 hlees2 hfit]; rw [app_room2 es1 es2 v0 v1 v2 hlees1 hlees2 hfit] at hl_; obtain ⟨l6, hl6_⟩ : ∃ l, appL 1 es1 ++ appL 2 es2 = l := ⟨_, rfl⟩; have hln6 : (l6.length : Int) = v1 + v2 := (by rw [← hl6_]; simp [appL]; omega); have HT6 := Aside0.mk (show ∀ x ∈ l6, x.f0 ≤ 2 from (by rw [← hl6_]; exact t6a es1 es2)); simp only [hl6_] at hl_; have HL6 := Aside0.mk hl_; have HI6 := Aside0.mk hl_.1; obtain ⟨m, hm_⟩ : ∃ m, tm v0 l6 (v0 + (l6.length : Int)) = m := ⟨_, rfl⟩; have HM := Aside0.mk hm_; have HM2 := Aside0.mk (show m ≤ 2 by rcases tm_case v0 l6 (v0 + (l6.length : Int)) with h_ | ⟨x, hx, h_⟩; omega; have := HT6.out x hx; omega); rw [hln6] at hm_; have HMN := Aside0.mk hm_; clear hl_ hm_ hl6_ HL4 HL5 HR5)
    | (go_at_call 35; refine (last_calls (B := w.heap.size) (F := F6) (b := v0) (l := l6) ?hI).mono ?_; (case hI => (with_reducible repeat (first | exact HI6.out | refine IsH.alloc ?_ _ | refine IsH.drewN ?_ _ | refine IsH.drew ?_))); rintro e_ w' ⟨rfl, ⟨n_, rfl⟩⟩; rw [hln6])
    | (go_at_call 36; refine (term_calls (B := w.heap.size) (F := F6) (b := v0) (l := l6) ?hI (v0 + (v1 + v2))).mono ?_; (case hI => (with_reducible repeat (first | exact HI6.out | refine IsH.alloc ?_ _ | refine IsH.drewN ?_ _ | refine IsH.drew ?_))); rintro e_ w' ⟨rfl, ⟨n_, rfl⟩⟩; rw [HMN.out])
    | (go_at_call 37; refine (ones_calls (64 - (v0 + (v1 + v2)) + 1) _ (by omega) (by omega)).mono ?_; rintro e_ w7 ⟨A7, c7, ts, rfl, hr_, hb_, hts_, ht9_⟩; have HL7 := Aside0.mk ((HL6.out.drewN _).below hb_); have HI7 := Aside0.mk HL7.out.1; have HR7 := Aside0.mk hr_; have HTL := Aside0.mk hts_; have HT9 := Aside0.mk ht9_; clear hr_ hb_ hts_ ht9_ HI6; have HI6 := HI7; clear HI7)
    | ((with_reducible refine gate_dst (N := 100) rfl ?_); refine Kd.R_make k77 _ 77 ?hg (N := 100) ?hd 52 (.tmp 99) (.tmp 99) ?ho (64 - (v0 + (v1 + v2)) + 1) ?hx ?hy Try.underlying52 (.agg #[.int .i64 0, .int .i64 0, .int .i64 0, .string ⟨#[]⟩, .slice none 0 0, .int .i64 0]) 72 info77 rfl (by decide) (by decide) z77 (ok := fun _ => True) (okp := fun _ => False) (k77_mkM _ _ _ z77 (Kd.R_nil _ _ _ _ _)) (fun _ _ => trivial) trivial ?h0 ?hl (Below.refl _ _) (Nat.le_refl _) ?_; (case hg => rfl); (case hd => rfl); (case ho => rfl); (case hx => rfl); (case hy => rfl); (case h0 => omega); (case hl => omega); intro r8 w8 hr_ hb_ hg_ hn_; clear hg_ hn_; obtain ⟨es8, hes_⟩ : ∃ es, List.replicate (64 - (v0 + (v1 + v2)) + 1).toNat z77 = es := ⟨_, rfl⟩; rw [hes_] at hr_; have hlees8 : (es8.length : Int) = 64 - (v0 + (v1 + v2)) + 1 := (by rw [← hes_, List.length_replicate]; omega); have HMes8 := Aside0.mk (show ∀ x ∈ es8, x.f4.length < 17592186044416 by intro x hx; rw [← hes_] at hx; rw [List.eq_of_mem_replicate hx]; decide); clear hes_; have HL8 := Aside0.mk ((HL7.out.drewN _).below hb_); have HR8 := Aside0.mk hr_; have HR78 := Aside0.mk (Kd.R_below (Kd.R_drewN HR7.out _) hb_); clear hr_ hb_; obtain ⟨A8, c8, e8_⟩ := Kd.R_slice HR8.out; subst e8_)
    | (go_at_call 32; refine (put_live HL8.out (v0 + (v1 + v2)) m A7 c7 ts A8 c8 es8 (stable_of_R HR78.out (fun q hq => HL6.out.lt q hq)) (Kd.R_reads' HR78.out).2.1 (by have := HTL.out; omega) (stable_of_R HR8.out (fun q hq => HL7.out.lt q hq)) (Kd.R_reads' HR8.out).2.1 (by omega) HMes8.out).mono ?_; rintro e_ w9 ⟨F9, rfl, hl_, _, _⟩; rw [put_full v0 l6 (v0 + (v1 + v2)) m ts es8 (by omega) HMN.out (by have := HTL.out; omega) (rise9 ts m (by have := HM2.out; omega) HT9.out) (by omega) hv00]; have HB9 := Aside0.mk hl_.2.2; clear hl_))
    go_ret
    exact ⟨rfl, by repeat (first | (with_reducible first | exact HB9.out | apply pw_below_drewN | apply below_drew1) | exact HB9.out)⟩
  · have d1 : decide (v0 + v1 + v2 ≤ 64) = false := decide_eq_false hfit
    go_wp2_with (first
    | ((with_reducible refine gate_dst (N := 38) rfl ?_); refine Kd.R_make k77 _ 77 ?hg (N := 38) ?hd 52 (.tmp 37) (.tmp 37) ?ho (v2) ?hx ?hy Try.underlying52 (.agg #[.int .i64 0, .int .i64 0, .int .i64 0, .string ⟨#[]⟩, .slice none 0 0, .int .i64 0]) 72 info77 rfl (by decide) (by decide) z77 (ok := fun _ => True) (okp := fun _ => False) (k77_mkM _ _ _ z77 (Kd.R_nil _ _ _ _ _)) (fun _ _ => trivial) trivial ?h0 ?hl (Below.refl _ _) (Nat.le_refl _) ?_; (case hg => rfl); (case hd => rfl); (case ho => rfl); (case hx => rfl); (case hy => rfl); (case h0 => omega); (case hl => omega); intro r5 w5 hr_ hb_ hg_ hn_; clear hg_ hn_; obtain ⟨es2, hes_⟩ : ∃ es, List.replicate (v2).toNat z77 = es := ⟨_, rfl⟩; rw [hes_] at hr_; have hlees2 : (es2.length : Int) = v2 := (by rw [← hes_, List.length_replicate]; omega); have HMes2 := Aside0.mk (show ∀ x ∈ es2, x.f4.length < 17592186044416 by intro x hx; rw [← hes_] at hx; rw [List.eq_of_mem_replicate hx]; decide); clear hes_; have HL5 := Aside0.mk (HL4.out.below hb_); have HR5 := Aside0.mk hr_; clear hr_ hb_; obtain ⟨A5, c5, e5_⟩ := Kd.R_slice HR5.out; subst e5_)
    | (go_at_call_of 33 (Value.int .i64 2); refine (append_live HL5.out 2 A5 c5 es2 (stable_of_R HR5.out (fun q hq => HL4.out.lt q hq)) (Kd.R_reads' HR5.out).2.1 (by omega) HMes2.out).mono ?_; rintro e_ w6 ⟨F6, rfl, hl_, _, _⟩; rw [app_room3 es1 es2 v0 v1 v2 hlees1 hlees2 hfit]; rw [app_room3 es1 es2 v0 v1 v2 hlees1 hlees2 hfit] at hl_; obtain ⟨l6, hl6_⟩ : ∃ l, appL 1 es1 = l := ⟨_, rfl⟩; have hln6 : (l6.length : Int) = v1 := (by rw [← hl6_]; simp [appL]; omega); have HT6 := Aside0.mk (show ∀ x ∈ l6, x.f0 ≤ 2 from (by rw [← hl6_]; exact t6b es1)); simp only [hl6_] at hl_; have HL6 := Aside0.mk hl_; have HI6 := Aside0.mk hl_.1; obtain ⟨m, hm_⟩ : ∃ m, tm v0 l6 (v0 + (l6.length : Int)) = m := ⟨_, rfl⟩; have HM := Aside0.mk hm_; have HM2 := Aside0.mk (show m ≤ 2 by rcases tm_case v0 l6 (v0 + (l6.length : Int)) with h_ | ⟨x, hx, h_⟩; omega; have := HT6.out x hx; omega); rw [hln6] at hm_; have HMN := Aside0.mk hm_; clear hl_ hm_ hl6_ HL4 HL5 HR5)
    | (go_at_call 35; refine (last_calls (B := w.heap.size) (F := F6) (b := v0) (l := l6) ?hI).mono ?_; (case hI => (with_reducible repeat (first | exact HI6.out | refine IsH.alloc ?_ _ | refine IsH.drewN ?_ _ | refine IsH.drew ?_))); rintro e_ w' ⟨rfl, ⟨n_, rfl⟩⟩; rw [hln6])
    | (go_at_call 36; refine (term_calls (B := w.heap.size) (F := F6) (b := v0) (l := l6) ?hI (v0 + (v1))).mono ?_; (case hI => (with_reducible repeat (first | exact HI6.out | refine IsH.alloc ?_ _ | refine IsH.drewN ?_ _ | refine IsH.drew ?_))); rintro e_ w' ⟨rfl, ⟨n_, rfl⟩⟩; rw [HMN.out])
    | (go_at_call 37; refine (ones_calls (64 - (v0 + (v1)) + 1) _ (by omega) (by omega)).mono ?_; rintro e_ w7 ⟨A7, c7, ts, rfl, hr_, hb_, hts_, ht9_⟩; have HL7 := Aside0.mk ((HL6.out.drewN _).below hb_); have HI7 := Aside0.mk HL7.out.1; have HR7 := Aside0.mk hr_; have HTL := Aside0.mk hts_; have HT9 := Aside0.mk ht9_; clear hr_ hb_ hts_ ht9_ HI6; have HI6 := HI7; clear HI7)
    | ((with_reducible refine gate_dst (N := 100) rfl ?_); refine Kd.R_make k77 _ 77 ?hg (N := 100) ?hd 52 (.tmp 99) (.tmp 99) ?ho (64 - (v0 + (v1)) + 1) ?hx ?hy Try.underlying52 (.agg #[.int .i64 0, .int .i64 0, .int .i64 0, .string ⟨#[]⟩, .slice none 0 0, .int .i64 0]) 72 info77 rfl (by decide) (by decide) z77 (ok := fun _ => True) (okp := fun _ => False) (k77_mkM _ _ _ z77 (Kd.R_nil _ _ _ _ _)) (fun _ _ => trivial) trivial ?h0 ?hl (Below.refl _ _) (Nat.le_refl _) ?_; (case hg => rfl); (case hd => rfl); (case ho => rfl); (case hx => rfl); (case hy => rfl); (case h0 => omega); (case hl => omega); intro r8 w8 hr_ hb_ hg_ hn_; clear hg_ hn_; obtain ⟨es8, hes_⟩ : ∃ es, List.replicate (64 - (v0 + (v1)) + 1).toNat z77 = es := ⟨_, rfl⟩; rw [hes_] at hr_; have hlees8 : (es8.length : Int) = 64 - (v0 + (v1)) + 1 := (by rw [← hes_, List.length_replicate]; omega); have HMes8 := Aside0.mk (show ∀ x ∈ es8, x.f4.length < 17592186044416 by intro x hx; rw [← hes_] at hx; rw [List.eq_of_mem_replicate hx]; decide); clear hes_; have HL8 := Aside0.mk ((HL7.out.drewN _).below hb_); have HR8 := Aside0.mk hr_; have HR78 := Aside0.mk (Kd.R_below (Kd.R_drewN HR7.out _) hb_); clear hr_ hb_; obtain ⟨A8, c8, e8_⟩ := Kd.R_slice HR8.out; subst e8_)
    | (go_at_call 32; refine (put_live HL8.out (v0 + (v1)) m A7 c7 ts A8 c8 es8 (stable_of_R HR78.out (fun q hq => HL6.out.lt q hq)) (Kd.R_reads' HR78.out).2.1 (by have := HTL.out; omega) (stable_of_R HR8.out (fun q hq => HL7.out.lt q hq)) (Kd.R_reads' HR8.out).2.1 (by omega) HMes8.out).mono ?_; rintro e_ w9 ⟨F9, rfl, hl_, _, _⟩; rw [put_full v0 l6 (v0 + (v1)) m ts es8 (by omega) HMN.out (by have := HTL.out; omega) (rise9 ts m (by have := HM2.out; omega) HT9.out) (by omega) hv00]; have HB9 := Aside0.mk hl_.2.2; clear hl_))
    go_ret
    exact ⟨rfl, by repeat (first | (with_reducible first | exact HB9.out | apply pw_below_drewN | apply below_drew1) | exact HB9.out)⟩

end Go.Proofs.Ytbomomaidglegaa.Hist
