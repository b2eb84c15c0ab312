/- HistBase: what stands behind a base has its indexes from there on; nothing is ahead of it. -/
import Derived.Test.YtbomomaidglegaaHistBoth
import Derived.Deep.LoopGhost
import Derived.WalkSpells
namespace Go.Proofs.Ytbomomaidglegaa.Hist
open Go Go.RowKit Go.Proofs.Ytbomomaidglegaa.XHist Go.Proofs.YtbomomaidglegaaW.PrintWords Go.Proofs.YtbomomaidglegaaW.PrintLast Go.Proofs.YtbomomaidglegaaW.PrintMore
set_option linter.unusedVariables false
set_option linter.unusedSimpArgs false

attribute [local go_sem] max2_int min2_int max_two min_two
/-- What stands in the law's log behind k steps. -/
def gl : Nat → List S105
  | 0 => []
  | k + 1 => gl k ++ [⟨(k : Int) + 1, (⟨1, 1, (k : Int) + 1, ⟨#[]⟩, [], 0⟩ : S77)⟩]
theorem gl_len (k : Nat) : (gl k).length = k := by
  induction k with
  | zero => rfl
  | succ k ih => rw [gl, List.length_append, ih]; rfl
theorem gl_at (k : Nat) : ∀ (j : Nat) (h : j < (gl k).length), (gl k)[j] = ⟨(j : Int) + 1, (⟨1, 1, (j : Int) + 1, ⟨#[]⟩, [], 0⟩ : S77)⟩ := by
  induction k with
  | zero => intro j h; simp [gl] at h
  | succ k ih =>
    intro j h
    simp only [gl]
    by_cases hj : j < (gl k).length
    · rw [List.getElem_append_left hj]; exact ih j hj
    · have h2 : j = k := by rw [gl_len] at h hj; omega
      subst h2
      rw [List.getElem_append_right (by omega)]
      simp
theorem gl_nil (k : Nat) : ∀ x ∈ gl k, x.f1.f4 = [] := by
  intro x hx
  obtain ⟨j, hj, rfl⟩ := List.mem_iff_getElem.1 hx
  rw [gl_at k j hj]
theorem gl_tm (b : Int) (k : Nat) (j : Nat) (h1 : 1 ≤ j) (h : j ≤ k) : tm b (gl k) (b + (j : Int)) = (j : Int) := by
  have := tm_in b (gl k) (j - 1) (by rw [gl_len]; omega)
  rw [show b + 1 + ((j - 1 : Nat) : Int) = b + (j : Int) by omega] at this
  rw [this, gl_at]
  show ((j - 1 : Nat) : Int) + 1 = _
  omega
theorem gl_last (b : Int) (k : Nat) : tm b (gl k) (b + (k : Int)) = (k : Int) := by
  by_cases h : k = 0
  · subst h
    rw [tm_out _ _ _ (by simp)]
    rfl
  · exact gl_tm b k k (by omega) (Nat.le_refl _)
theorem gl_app (b : Int) (k : Nat) (h0 : 0 ≤ b) (h : b + (k : Int) + 1 ≤ 64) : appF b (gl k) ((k : Int) + 1) [(⟨1, 1, (k : Int) + 1, ⟨#[]⟩, [], 0⟩ : S77)] = (b + ((k : Int) + 1), 0, gl (k + 1)) := by
  unfold appF
  rw [gl_len, gl_last, if_neg (by omega), if_neg (by simp; omega)]
  rw [← Int.add_assoc]
  simp [appL, gl]
theorem IsX.lt {B : Nat} {W : World} {g : Nat} {F : Nat → Prop} {b : Int} {ts : List Int} {es : List S77} (h : IsX B W g F b ts es) : ∀ q, F q → q < W.heap.size := by
  obtain ⟨_, _, _, _, _, _, _, hL, _⟩ := h
  exact hL
theorem IsX.ge {B : Nat} {W : World} {g : Nat} {F : Nat → Prop} {b : Int} {ts : List Int} {es : List S77} (h : IsX B W g F b ts es) : ∀ q, F q → B ≤ q := by
  obtain ⟨_, _, _, _, _, _, hF, _⟩ := h
  exact hF

set_option maxHeartbeats 16000000 in
set_option maxRecDepth 100000 in
theorem HistBase_walk (a0 a1 a2 : Int) (w : World) (_w0 : (Lit.int .i64 a0).wf = true) (_w1 : (Lit.int .i64 a1).wf = true) (_w2 : (Lit.int .i64 a2).wf = true) :
    Calls Try.prog 13 #[.int .i64 a0, .int .i64 a1, .int .i64 a2] w fun e w' => e = .returned (.bool true) ∧ Below w.heap.size w w' := by
  clear _w0 _w1 _w2
  have hu77 := Try.underlying77
  go_enter Try.func13, Try.ntmps13
  go_upto_region 4 with (first
    | (go_at_call 29; refine (known_calls _).mono ?_; rintro e_ w1 ⟨rfl, hb1⟩; have HB1 := Aside0.mk hb1; clear hb1)
    | (go_at_call 34; refine (within_calls a0 30 _ (by omega) (by omega)).mono ?_; rintro e_ w' ⟨b, rfl, ⟨n_, rfl⟩, hb0, hb30⟩))
  go_upto_region 5 with (first
    | (go_at_call 34; refine (within_calls a1 30 _ (by omega) (by omega)).mono ?_; rintro e_ w' ⟨n, rfl, ⟨n_, rfl⟩, hn0, hn30⟩))
  obtain ⟨N, rfl⟩ := Int.eq_ofNat_of_zero_le hn0
  generalize hw2 : World.drewN w1 _ = w2
  have HB2 := Aside0.mk (show Below w.heap.size w w2 by rw [← hw2]; exact pw_below_drewN HB1.out _)
  clear hw2 HB1
  go_upto_region 6 with (first
    | (go_at_call 31; refine (new_live w b hb0 (by omega) HB2.out).mono ?_; rintro e_ w3 ⟨g, F3, rfl, hl_, hb_, _⟩; have HL3 := Aside0.mk hl_; have HB3 := Aside0.mk (below_then HB2.out HB2.out.size hb_); clear hl_ hb_))
  generalize hw4 : World.alloc w3 _ = w4
  have hb4 : Below w3.heap.size w3 w4 := by rw [← hw4]; exact below_alloc (Below.refl _ _) _
  have hx4 : w4.heap[w3.heap.size]? = some (.cells #[.int .i64 b, .slice none 0 0, .slice none 0 0] 67 (0, 0)) := by rw [← hw4]; exact heap_alloc_new _ _
  obtain ⟨gx, hgx⟩ : ∃ q, w3.heap.size = q := ⟨_, rfl⟩
  rw [hgx] at hx4 ⊢
  have HL4 := Aside0.mk (HL3.out.below hb4)
  have HX4 : Aside0 (IsX w.heap.size w4 gx (fun q => q = gx) b [] []) := ⟨⟨none, 0, none, 0, hx4, rfl, fun q hq => by rw [hq, ← hgx]; exact HB3.out.size, fun q hq => by rw [hq]; exact blk_lt hx4, Kd.R_nil _ _ _ _ _, Kd.R_nil _ _ _ _ _, rfl, hb0, by simp; omega⟩⟩
  have HD4 := Aside0.mk (show ∀ q, F3 q → ¬ q = gx from fun q hq he => by have := HL3.out.lt q hq; omega)
  clear hw4 hb4 hx4 hgx HL3 HB3 HB2
  go_wp2
  go_loopw [9] (fun v9 wr => ∃ (k : Nat) (F FX : Nat → Prop), v9 = .int .i64 ((k : Int) + 1) ∧ k ≤ N ∧ Aside0 (Live w wr g F b (gl k)) ∧ Aside0 (IsX w.heap.size wr gx FX b ((gl k).map (·.f0)) ((gl k).map (·.f1))) ∧ Aside0 (∀ q, F q → ¬ FX q))
    (fun v9 _ => N + 1 - (intOf v9).toNat)
  case atStart => exact ⟨0, F3, _, rfl, by omega, HL4, HX4, HD4⟩
  case round =>
    obtain ⟨k, F, FX, rfl, hkN, HL, HX, HD⟩ := hrel
    clear HL4 HX4 HD4
    by_cases hlt : k < N
    · have q1 := eq_true (show (k : Int) + 1 ≤ (N : Int) by omega)
      have q2 := decide_eq_true (show (k : Int) + 1 ≤ (N : Int) by omega)
      go_upto_region 10 with (fail)
      generalize hw1 : World.alloc wr _ = w1
      have hb1 : Below wr.heap.size wr w1 := by rw [← hw1]; exact below_alloc (Below.refl _ _) _
      have hx1 : w1.heap[wr.heap.size]? = some (.cells #[.int .i64 1, .int .i64 1, .int .i64 ((k : Int) + 1), .string ⟨#[]⟩, .slice none 0 0, .int .i64 0] 77 (0, 0)) := by rw [← hw1]; exact heap_alloc_new _ _
      obtain ⟨ge, hge⟩ : ∃ q, wr.heap.size = q := ⟨_, rfl⟩
      have HNE := Aside0.mk (show ¬ F ge from fun hf => by have := HL.out.lt ge hf; omega)
      have HNX := Aside0.mk (show ¬ FX ge from fun hf => by have := HX.out.lt ge hf; omega)
      rw [hge] at hx1 ⊢
      have HL1 := Aside0.mk (HL.out.below hb1)
      have HX1 := Aside0.mk (HX.out.below hb1)
      have BE1 := Aside0.mk hx1
      have HLT := Aside0.mk (show ∀ q, FX q → q < w1.heap.size from HX1.out.lt)
      have hc10 := blk_cell BE1.out 0
      have hc11 := blk_cell BE1.out 1
      have hc12 := blk_cell BE1.out 2
      have hc13 := blk_cell BE1.out 3
      have hc14 := blk_cell BE1.out 4
      have hc15 := blk_cell BE1.out 5
      clear hw1 hb1 hge hx1 HL HX
      go_upto_region 11 with (first
        | ((with_reducible refine gate_dst (N := 40) rfl ?_); refine Kd.R_lit k77 _ 77 ?hg (N := 40) ?hd (xs := [(⟨1, 1, (k : Int) + 1, ⟨#[]⟩, [], 0⟩ : S77)]) (inner := [.int .i64 1, .int .i64 1, .int .i64 ((k : Int) + 1), .string ⟨#[]⟩, .slice none 0 0, .int .i64 0]) (ok := fun _ => True) (okp := fun _ => False) ?hr ?hp (fun _ _ => trivial) trivial (Below.refl _ _) (Nat.le_refl _) (by simp) ?_; (case hd => rfl); (case hg => rfl); (case hr => first | (go_simp; done) | (go_simp; rfl)); (case hp => exact Reps.cons_ (show Kd.M k77 _ _ _ (⟨1, 1, (k : Int) + 1, ⟨#[]⟩, [], 0⟩ : S77) [.int .i64 1, .int .i64 1, .int .i64 ((k : Int) + 1), .string ⟨#[]⟩, .slice none 0 0, .int .i64 0] from k77_mkM _ _ _ (⟨1, 1, (k : Int) + 1, ⟨#[]⟩, [], 0⟩ : S77) (Kd.R_nil _ _ _ _ _)) rfl (Reps.none _ _)); intro v2 w2 hr_ hb_ hg_ hn_; clear hg_ hn_; have HR2 := Aside0.mk hr_; have HBL := Aside0.mk hb_; clear hr_ hb_; obtain ⟨A2, c2, e2_⟩ := Kd.R_slice HR2.out; subst e2_)
        | (go_at_call 33; have hl2 := HL1.out.below HBL.out; refine (append_live hl2 ((k : Int) + 1) A2 c2 [(⟨1, 1, (k : Int) + 1, ⟨#[]⟩, [], 0⟩ : S77)] (stable_of_R HR2.out (fun q hq => HL1.out.lt q hq)) (Kd.R_reads' HR2.out).2.1 (by simp) (by simp)).mono ?_; rintro e_ w3 ⟨F3, rfl, hl_, hF_, hk_⟩; have hap_ := gl_app b k hb0 (by omega); rw [hap_]; rw [hap_] at hl_; have HL3 := Aside0.mk hl_; have HX3 := Aside0.mk ((HX1.out.below HBL.out).kept hk_ (fun q hx hf => HD.out q hf hx)); have BE3 := Aside0.mk (blk_kept hk_ (blk_below BE1.out HBL.out) HNE.out); have HD3 := Aside0.mk (show ∀ q, F3 q → ¬ FX q from fun q hq hx => by rcases hF_ q hq with h | h; exact HD.out q h hx; have h2 := HLT.out q hx; have h3 := HBL.out.size; omega); clear hl_ hF_ hk_ hap_ hl2))
      have hc30 := blk_cell BE3.out 0
      have hc31 := blk_cell BE3.out 1
      have hc32 := blk_cell BE3.out 2
      have hc33 := blk_cell BE3.out 3
      have hc34 := blk_cell BE3.out 4
      have hc35 := blk_cell BE3.out 5
      clear HL1 HX1 BE1 HR2 HBL HNE HLT
      go_upto_region 12 with (first
        | ((with_reducible refine gate_dst (N := 47) rfl ?_); refine Kd.R_lit kp _ 77 ?hg (N := 47) ?hd (xs := [(⟨1, 1, (k : Int) + 1, ⟨#[]⟩, [], 0⟩ : S77)]) (inner := [.int .i64 1, .int .i64 1, .int .i64 ((k : Int) + 1), .string ⟨#[]⟩, .slice none 0 0, .int .i64 0]) (ok := fun _ => True) (okp := fun _ => False) ?hr ?hp (fun _ _ => trivial) trivial (Below.refl _ _) (Nat.le_refl _) (by simp) ?_; (case hd => rfl); (case hg => rfl); (case hr => first | (go_simp; done) | (go_simp; rfl)); (case hp => exact Reps.cons_ (show Kd.M kp _ _ _ (⟨1, 1, (k : Int) + 1, ⟨#[]⟩, [], 0⟩ : S77) [.int .i64 1, .int .i64 1, .int .i64 ((k : Int) + 1), .string ⟨#[]⟩, .slice none 0 0, .int .i64 0] from kp_mk _ _ _ (⟨1, 1, (k : Int) + 1, ⟨#[]⟩, [], 0⟩ : S77) rfl) rfl (Reps.none _ _)); intro v2 w4 hr_ hb_ hg_ hn_; clear hg_ hn_; have HR4 := Aside0.mk hr_; have HBM := Aside0.mk hb_; clear hr_ hb_; obtain ⟨A4, c4, e2_⟩ := Kd.R_slice HR4.out; subst e2_)
        | (go_at_call 48; obtain ⟨ad4, e4_, _⟩ := at_kp (Kd.R_reads' HR4.out).2.2 0 (by omega) (by simp); subst e4_; refine (xappend_calls (HX3.out.below HBM.out) (Nat.le_trans HL3.out.2.2.size HBM.out.size) ((k : Int) + 1) ad4 c4 (⟨1, 1, (k : Int) + 1, ⟨#[]⟩, [], 0⟩ : S77) (stable_of_R HR4.out (fun q hq => HX3.out.lt q hq)) (by omega) (by rw [tm_tx, List.length_map, gl_len, gl_last]; omega) (by rw [List.length_map, gl_len]; omega)).mono ?_; rintro e_ w5 ⟨FX5, rfl, hx_, hF_, hk_⟩; have HX5 := Aside0.mk hx_; have HL5 := Aside0.mk ((HL3.out.below HBM.out).kept hk_ (fun q hq hx => HD3.out q hq hx) (fun q hq => HX3.out.ge q hq)); have HD5 := Aside0.mk (show ∀ q, F3 q → ¬ FX5 q from fun q hq hx => by rcases hF_ q hx with h | h; exact HD3.out q hq h; have h2 := HL3.out.lt q hq; have h3 := HBM.out.size; omega); clear hx_ hF_ hk_))
      have hwa : wrap64 (b + ((k : Int) + 1)) = b + ((k : Int) + 1) := by unfold wrap64; omega
      have hwb : wrap64 ((k : Int) + 1 + 1) = (k : Int) + 1 + 1 := by unfold wrap64; omega
      have HT6 := Aside0.mk (show tm b (gl (k + 1)) (b + ((k : Int) + 1)) = (k : Int) + 1 from gl_last b (k + 1))
      have HI5 := Aside0.mk HL5.out.1
      go_wp2_with (first
        | (go_at_call 36; refine (termb_at (B := w.heap.size) (F := F3) (b := b) (l := gl (k + 1)) ?hI (b + ((k : Int) + 1)) ((k : Int) + 1) HT6.out).mono ?_; (case hI => (with_reducible repeat (first | exact HI5.out | refine IsH.drewN ?_ _ | refine IsH.drew ?_))); rintro e_ w' ⟨rfl, ⟨n_, rfl⟩⟩))
      case roundEnd =>
        refine ⟨⟨k + 1, F3, FX5, by first | rfl | rw [hwb]; rfl, by omega, ⟨HL5.out.drewN _⟩, ⟨by rw [show (gl (k + 1)).map (·.f0) = (gl k).map (·.f0) ++ [(k : Int) + 1] by simp [gl], show (gl (k + 1)).map (·.f1) = (gl k).map (·.f1) ++ [(⟨1, 1, (k : Int) + 1, ⟨#[]⟩, [], 0⟩ : S77)] by simp [gl]]; exact HX5.out.drewN _⟩, HD5⟩, ?_⟩
        first | (simp only [intOf]; omega) | (simp only [intOf, hwb]; omega)
    · have q1 := eq_false (show ¬ (k : Int) + 1 ≤ (N : Int) by omega)
      have q2 := decide_eq_false (show ¬ (k : Int) + 1 ≤ (N : Int) by omega)
      have hkn : k = N := by omega
      subst hkn
      have HMM := Aside0.mk (show ∀ x ∈ gl k, x.f1.f4.length < 17592186044416 from fun x hx => by rw [gl_nil k x hx]; simp)
      have HLN := Aside0.mk (gl_len k)
      have HI := Aside0.mk HL.out.1
      clear hlt hkN
      go_upto_region 15 with (first
        | (go_at_call 34; refine (within_calls a2 80 _ (by omega) (by omega)).mono ?_; rintro e_ w5 ⟨v, rfl, ⟨n_, rfl⟩, hv0, hv80⟩))
      have hwv : wrap64 (v - 5) = v - 5 := by unfold wrap64; omega
      obtain ⟨fr, hfr⟩ : ∃ fr, v - 5 = fr := ⟨_, rfl⟩
      rw [hfr] at hwv
      try rw [hfr]
      have hf0 : -5 ≤ fr := by omega
      have hf1 : fr < 75 := by omega
      clear hfr hv0 hv80
      generalize hw5 : World.drewN wr _ = w5
      have HB5 := Aside0.mk (show Below wr.heap.size wr w5 by rw [← hw5]; exact pw_below_drewN (Below.refl _ _) _)
      clear hw5
      go_upto_region 17 with (first
        | (go_at_call 42; refine (from_calls (B := w.heap.size) (F := F) (b := b) (l := gl k) (HI.out.below HB5.out) HMM.out fr (by omega) (by omega)).mono ?_; rintro e_ w6 ⟨A1, c1, A2, c2, us, ms, rfl, hu_, hm_, hb_, hus, hms⟩; have HM := Aside0.mk hm_; have HB6 := Aside0.mk (below_then HB5.out HB5.out.size hb_); have HUS := Aside0.mk hus; have HMS := Aside0.mk hms; clear hu_ hm_ hb_ hus hms)
        | (go_at_call 46; refine (entry_at (B := w.heap.size) (F := F) (b := b) (l := gl k) (HI.out.below HB6.out) (gl_nil k) b z77 false (by unfold en; rw [if_neg (by omega)]) (decide_eq_false (by omega))).mono ?_; rintro e_ w7 ⟨A5, c5, rfl, hb_⟩; have HB7 := Aside0.mk hb_; clear hb_))
      generalize hw8 : World.alloc w7 _ = w8
      have hb8 : Below w7.heap.size w7 w8 := by rw [← hw8]; exact below_alloc (Below.refl _ _) _
      have HC8 := Aside0.mk (Kd.R_below (Kd.R_below HM.out HB7.out) hb8)
      have HB8 := Aside0.mk (below_then HB6.out HB6.out.size (below_then HB7.out HB7.out.size hb8))
      obtain ⟨j, hj⟩ : ∃ j, fromIx b (gl k) fr = j := ⟨_, rfl⟩
      obtain ⟨m, hm⟩ : ∃ m, k - j = m := ⟨_, rfl⟩
      have hjk : j ≤ k := by rw [← hj]; unfold fromIx; rw [HLN.out]; split <;> omega
      have hul : us.length = m := by rw [HUS.out, hj, List.length_map, List.length_drop, HLN.out, hm]
      have hml : ms.length = m := by rw [HMS.out, hj, List.length_map, List.length_drop, HLN.out, hm]
      have hc8 := (Kd.R_reads' HC8.out).2.2
      rw [hul, hml]
      rw [hml] at hc8
      have HLAST := Aside0.mk (show ∀ p : Nat, p + 1 = m → (rd_T77 ms (p : Int)).f2 = (k : Int) from fun p hp => by
        have hpl : p < ms.length := by omega
        rw [rd77_at ms p hpl]
        simp only [HMS.out, hj, List.getElem_map, List.getElem_drop, gl_at]
        omega)
      have HC9 := Aside0.mk hc8
      have hW : (if (b + (k : Int) - if fr < b + 1 then b + 1 else fr) + 1 < 0 then 0 else (b + (k : Int) - if fr < b + 1 then b + 1 else fr) + 1) = (m : Int) := by
        rw [← hm, ← hj]
        unfold fromIx
        rw [HLN.out]
        by_cases e1 : fr < b + 1
        · rw [if_pos e1, if_neg (show ¬ b < fr by omega)]
          split <;> omega
        · rw [if_neg e1, if_pos (show b < fr by omega)]
          split <;> omega
      have HW := Aside0.mk hW
      have hmk : m ≤ k := by omega
      clear hW hwv hw8 hb8 HM HB6 HB7 HUS HMS HB5 hj hm hjk hul hml hc8 HMM HC8
      go_upto_region 18 with (fail)
      rw [HW.out]
      have HI8 := Aside0.mk (HI.out.below HB8.out)
      have HX8 := Aside0.mk (HX.out.below HB8.out)
      have HT0 := Aside0.mk (tm_out b (gl k) b (by omega))
      have HEND := Aside0.mk (below_then HL.out.2.2 HL.out.2.2.size HB8.out)
      have hmm : ((m : Int) == (m : Int)) = true := by simp
      by_cases hz : m = 0
      · subst hz
        clear hmk HLAST HC9 HW
        go_wp2_with (first
          | (go_at_call 49; refine (both_calls HI8.out HX8.out rfl rfl (gl_nil k)).mono ?_; rintro e_ w9 ⟨rfl, hb_⟩; have HB9 := Aside0.mk hb_; clear hb_)
          | (go_at_call 36; refine (termb_at (B := w.heap.size) (F := F) (b := b) (l := gl k) ?hI b 0 HT0.out).mono ?_; (case hI => (with_reducible repeat (first | exact HI8.out.below HB9.out | refine IsH.drewN ?_ _ | refine IsH.drew ?_))); rintro e_ w' ⟨rfl, ⟨n_, rfl⟩⟩))
        all_goals
          go_ret
          exact ⟨rfl, pw_below_drewN (below_then HEND.out HEND.out.size HB9.out) _⟩
      · obtain ⟨p, rfl⟩ : ∃ p, m = p + 1 := ⟨m - 1, by omega⟩
        have hw1 : wrap64 (((p + 1 : Nat) : Int) - 1) = (p : Int) := by unfold wrap64; omega
        have hw2 : ((p + 1 : Nat) : Int) - 1 = (p : Int) := by omega
        have hz2 : (((p + 1 : Nat) : Int) == 0) = false := beq_eq_false_iff_ne.mpr (by omega)
        have hq1 := eq_true (show 0 ≤ (p : Int) by omega)
        have hq2 := eq_true (show (p : Int) < ((p + 1 : Nat) : Int) by omega)
        obtain ⟨ad, A5, c5, rfl, _, _, hx2, _⟩ := at_T77 HC9.out (p : Int) (by omega) (by omega)
        rw [HLAST.out p rfl, Int.toNat_natCast] at hx2
        have HX2 := Aside0.mk hx2
        clear hx2 hz HLAST HC9 HW
        go_wp2_with (first
          | (go_at_call 49; refine (both_calls HI8.out HX8.out rfl rfl (gl_nil k)).mono ?_; rintro e_ w9 ⟨rfl, hb_⟩; have hx9 := pw_cell_below hb_ HX2.out; have HB9 := Aside0.mk hb_; clear hb_)
          | (go_at_call 36; refine (termb_at (B := w.heap.size) (F := F) (b := b) (l := gl k) ?hI b 0 HT0.out).mono ?_; (case hI => (with_reducible repeat (first | exact HI8.out.below HB9.out | refine IsH.drewN ?_ _ | refine IsH.drew ?_))); rintro e_ w' ⟨rfl, ⟨n_, rfl⟩⟩))
        all_goals
          go_ret
          exact ⟨rfl, pw_below_drewN (below_then HEND.out HEND.out.size HB9.out) _⟩
end Go.Proofs.Ytbomomaidglegaa.Hist
