/- HistAgain: what was put once changes nothing when it is put again, nor does a front of it. -/
import Derived.Test.YtbomomaidglegaaHistAgain0
import Derived.Test.YtbomomaidglegaaHistTerms
import Derived.Test.YtbomomaidglegaaOpens
import Derived.Deep.LoopGhost
import Derived.WalkSpells
namespace Go.Proofs.Ytbomomaidglegaa.Hist
open Go Go.RowKit Go.Proofs.Ytbomomaidglegaa.XHist Go.Proofs.YtbomomaidglegaaW.PrintWords Go.Proofs.YtbomomaidglegaaW.PrintLast Go.Proofs.YtbomomaidglegaaW.PrintMore
set_option linter.unusedVariables false
set_option linter.unusedSimpArgs false


set_option maxHeartbeats 16000000 in
set_option maxRecDepth 100000 in
theorem HistAgain_walk (A0 : Option Addr) (c0 : Nat) (l0 : List S54) (x : S54) (A3 : Option Addr) (c3 : Nat) (A4 : Option Addr) (c4 : Nat) (fr : Int) (w : World) (hC0 : Kd.C k54 w A0 l0.length l0) (hc0 : l0.length ≤ c0)
    (h3 : x.f3.length ≤ c3) (hC3 : Kd.C (Kd.int .i64) w A3 x.f3.length x.f3) (h4 : x.f4.length ≤ c4) (hC4 : Kd.C k77 w A4 x.f4.length x.f4) :
    Calls Try.prog 10 #[.slice A0 l0.length c0, .agg #[.bool x.f0, .int .i64 x.f1, .int .i64 x.f2, .slice A3 x.f3.length c3, .slice A4 x.f4.length c4], .int .i64 fr] w fun e w' => e = .returned (.bool true) ∧ Below w.heap.size w w' := by
  have hu54 := Try.underlying54
  obtain ⟨r0, hr0, hf0⟩ := few_dec l0
  obtain ⟨r1, hr1, hf1⟩ := few_dec [x]
  have HC0 := Aside0.mk hC0
  have HCC := Aside0.mk hc0
  have H3 := Aside0.mk h3
  have HC3 := Aside0.mk hC3
  have H4 := Aside0.mk h4
  have HC4 := Aside0.mk hC4
  have HF0 := Aside0.mk hf0
  have HF1 := Aside0.mk hf1
  have HR0 := Aside0.mk hr0
  have HR1 := Aside0.mk (Aside0.mk hr1)
  clear hC0 hc0 h3 hC3 h4 hC4 hf0 hf1 hr0 hr1
  go_enter Try.func10, Try.ntmps10
  go_upto_region 3 with (first
    | (go_at_call 29; refine (known_calls _).mono ?_; rintro e_ w1 ⟨rfl, hb1⟩; have HB1 := Aside0.mk (below_then (below_alloc (Below.refl _ _) _) (by simp) hb1 : Below w.heap.size w w1); have BA1 := Aside0.mk (blk_below (heap_alloc_new w _) hb1); clear hb1))
  obtain ⟨ga, hga⟩ : ∃ q, w.heap.size = q := ⟨_, rfl⟩
  have HGA := Aside0.mk hga
  have hba := BA1.out
  rw [hga] at hba ⊢
  have BA := Aside0.mk hba
  clear hba hga BA1
  cases r0 with
  | false =>
    go_wp2_with (first
      | (go_at_call 30; refine (HF0.out A0 c0 _ (Kd.C_below HC0.out HB1.out) HCC.out).mono ?_; rintro e_ w' ⟨rfl, ⟨n_, rfl⟩⟩))
    go_ret
    exact ⟨rfl, pw_below_drewN HB1.out _⟩
  | true =>
  have ha0 := blk_cell BA.out 0
  have ha1 := blk_cell BA.out 1
  have ha2 := blk_cell BA.out 2
  have ha3 := blk_cell BA.out 3
  have ha4 := blk_cell BA.out 4
  have HFEW := Aside0.mk (HR0.out rfl)
  clear HR0
  go_upto_if 32 with (first
    | (go_at_call_of 30 (Value.slice A0 l0.length c0); refine (HF0.out A0 c0 _ (Kd.C_below HC0.out HB1.out) HCC.out).mono ?_; rintro e_ w' ⟨rfl, ⟨n_, rfl⟩⟩)
    | (go_at_call 30; refine (HF1.out _ 1 _ (C_one (e := 54) (cs := [.bool x.f0, .int .i64 x.f1, .int .i64 x.f2, .slice A3 x.f3.length c3, .slice A4 x.f4.length c4]) (heap_alloc_new _ _) (k54_mk _ x H3.out (Kd.C_below (Kd.C_below HC3.out HB1.out) (below_alloc (pw_below_drewN (Below.refl _ _) _) _)) H4.out (Kd.C_below (Kd.C_below HC4.out HB1.out) (below_alloc (pw_below_drewN (Below.refl _ _) _) _)))) (Nat.le_refl _)).mono ?_; rintro e_ w' ⟨rfl, ⟨m_, rfl⟩⟩))
  generalize hw2 : World.drewN _ m_ = w2
  have hb2 : Below w1.heap.size w1 w2 := by rw [← hw2]; exact pw_below_drewN (below_alloc (pw_below_drewN (Below.refl _ _) _) _) _
  have HB2 := Aside0.mk (below_then HB1.out HB1.out.size hb2)
  have BA2 := Aside0.mk (blk_below BA.out hb2)
  clear hb2 hw2 BA ha0 ha1 ha2 ha3 ha4
  cases r1 with
  | false =>
    go_wp2
    go_ret
    exact ⟨rfl, HB2.out⟩
  | true =>
  have HOKX := Aside0.mk ((HR1.out.out rfl).2 x (by simp))
  clear HF0 HF1 HR1 HB1
  go_upto_region 6 with (first
    | (go_at_call 31; refine (new_live w 0 (by omega) (by omega) HB2.out).mono ?_; rintro e_ w3 ⟨g, F3, rfl, hl_, hb_, hf_⟩; have HL3 := Aside0.mk hl_; have HB3 := Aside0.mk hb_; have HF3 := Aside0.mk hf_; clear hl_ hb_ hf_))
  generalize hw4 : World.alloc w3 _ = w4
  have hb4 : Below w3.heap.size w3 w4 := by rw [← hw4]; exact below_alloc (Below.refl _ _) _
  have hx4 : w4.heap[w3.heap.size]? = some (.cells #[.int .i64 0, .slice none 0 0, .slice none 0 0] 67 (0, 0)) := by rw [← hw4]; exact heap_alloc_new _ _
  obtain ⟨gx, hgx⟩ : ∃ q, w3.heap.size = q := ⟨_, rfl⟩
  rw [hgx] at hx4 ⊢
  have HL4 := HL3.out.below hb4
  have HX4 : IsY w.heap.size w4 gx (fun q => q = gx) 0 [] [] := ⟨none, 0, none, 0, hx4, rfl, fun q hq => by rw [hq, ← hgx]; exact HL3.out.2.2.size, fun q hq => by rw [hq]; exact blk_lt hx4, Kd.R_nil _ _ _ _ _, Kd.R_nil _ _ _ _ _, rfl, Int.le_refl _, by simp⟩
  have HS4 : Aside0 (St w w4 g F3 [] gx (fun q => q = gx) [] []) := ⟨⟨HL4, HX4, fun q hq he => by have := HL3.out.lt q hq; omega⟩⟩
  have HA4 : Aside0 (Bk w4 F3 (fun q => q = gx) ga #[.bool x.f0, .int .i64 x.f1, .int .i64 x.f2, .slice A3 x.f3.length c3, .slice A4 x.f4.length c4] 54) := ⟨⟨blk_below (blk_below BA2.out HB3.out) hb4, fun hf => by have h1 := HF3.out ga hf; have h2 := blk_lt BA2.out; omega, fun he => by have h1 := blk_lt (blk_below BA2.out HB3.out); omega⟩⟩
  clear hw4 hb4 hx4 hgx HL3 HB3 HB2 HL4 HX4 HF3 BA2
  go_wp2
  go_loopw [9] (fun v9 wr => ∃ (i : Nat) (F FX : Nat → Prop) (l : List S105) (ts : List Int) (es : List S77), v9 = .int .i64 (i : Int) ∧ i ≤ l0.length ∧ Aside0 (St w wr g F l gx FX ts es) ∧ Aside0 (Bk wr F FX ga #[.bool x.f0, .int .i64 x.f1, .int .i64 x.f2, .slice A3 x.f3.length c3, .slice A4 x.f4.length c4] 54) ∧ Aside0 (∀ y ∈ l, y.f1.f4.length ≤ 30))
    (fun v9 _ => l0.length - (intOf v9).toNat)
  case atStart => exact ⟨0, F3, _, [], [], [], rfl, Nat.zero_le _, HS4, HA4, ⟨fun y hy => by cases hy⟩⟩
  case round =>
    obtain ⟨i, F, FX, l, ts, es, rfl, hi, HS, HA, HMB⟩ := hrel
    clear HS4 HA4
    have hf60 := HFEW.out.1
    by_cases hli : i < l0.length
    · have q1 := eq_true (show (i : Int) < (l0.length : Int) by omega)
      have q0 := eq_true (show 0 ≤ (i : Int) by omega)
      obtain ⟨ad, A3', c3', A4', c4', rfl, hx0, hx1, hx2, hx3, hx4, hc3, hC3, hc4, hC4⟩ := at_T54 HC0.out (i : Int) (by omega) (by omega)
      rw [Int.toNat_natCast] at hx0 hx1 hx2 hx3 hx4
      have hok := HFEW.out.2 (l0[i]) (List.getElem_mem hli)
      rw [← rd54_at l0 i hli] at hok
      obtain ⟨y, hyi⟩ : ∃ y, rd_T54 l0 (i : Int) = y := ⟨_, rfl⟩
      rw [hyi] at hx0 hx1 hx2 hx3 hx4 hc3 hC3 hc4 hC4 hok
      have HOK := Aside0.mk hok
      have HY3 := Aside0.mk hC3
      have HYC3 := Aside0.mk hc3
      have HY4 := Aside0.mk hC4
      have HYC4 := Aside0.mk hc4
      have hy0 := pw_cell_below HS.out.1.2.2 hx0
      have hy1 := pw_cell_below HS.out.1.2.2 hx1
      have hy2 := pw_cell_below HS.out.1.2.2 hx2
      have hy3 := pw_cell_below HS.out.1.2.2 hx3
      have hy4 := pw_cell_below HS.out.1.2.2 hx4
      clear hok hC3 hc3 hC4 hc4 hyi hx0 hx1 hx2 hx3 hx4
      go_upto_region 10 with (fail)
      obtain ⟨wa, hwa⟩ : ∃ wa, wr.alloc (.cells #[.bool y.f0, .int .i64 y.f1, .int .i64 y.f2, .slice A3' y.f3.length c3', .slice A4' y.f4.length c4'] 54) = wa := ⟨_, rfl⟩
      have hba : Below wr.heap.size wr wa := by rw [← hwa]; exact below_alloc (Below.refl _ _) _
      have hbc : wa.heap[wr.heap.size]? = some (.cells #[.bool y.f0, .int .i64 y.f1, .int .i64 y.f2, .slice A3' y.f3.length c3', .slice A4' y.f4.length c4'] 54 (0, 0)) := by rw [← hwa]; exact heap_alloc_new _ _
      rw [hwa]
      obtain ⟨gc, hgc⟩ : ∃ q, wr.heap.size = q := ⟨_, rfl⟩
      have HGE := Aside0.mk (show w.heap.size ≤ gc by rw [← hgc]; exact HS.out.1.2.2.size)
      have HSa := Aside0.mk (HS.out.below hba)
      have HBa : Aside0 (Bk wa F FX gc #[.bool y.f0, .int .i64 y.f1, .int .i64 y.f2, .slice A3' y.f3.length c3', .slice A4' y.f4.length c4'] 54) := ⟨⟨by rw [← hgc]; exact hbc, fun hf => by have := HS.out.1.lt gc hf; omega, fun hf => by have := HS.out.2.1.lt gc hf; omega⟩⟩
      have HNE := Aside0.mk (show ga ≠ gc from fun e => by have := blk_lt HA.out.1; omega)
      have HAa := Aside0.mk (HA.out.below hba)
      rw [hgc]
      clear hwa hba hbc hgc hy0 hy1 hy2 hy3 hy4
      obtain ⟨n3, hn3⟩ : ∃ n, y.f3.length = n := ⟨_, rfl⟩
      have HN3 := Aside0.mk hn3
      have hn80 : n3 ≤ 80 ∧ y.f4.length ≤ 80 := ⟨by have := HOK.out.1; omega, HOK.out.2.1⟩
      have HN80 := Aside0.mk hn80
      have hc3 := blk_cell HBa.out.1 3
      clear hn3 hn80
      go_upto_region 11 with (first
        | ((with_reducible refine gate_dst (N := 46) rfl ?_); refine Kd.R_lit (Kd.int .i64) _ 3 ?hg (N := 46) ?hd (xs := ([] : List Int)) (inner := []) (ok := fun _ => True) (okp := fun _ => False) ?hr ?hp (fun _ _ => trivial) trivial (Below.refl _ _) (Nat.le_refl _) (by simp) ?_; (case hd => rfl); (case hg => rfl); (case hr => first | (go_simp; done) | (go_simp; rfl)); (case hp => exact Reps.none _ _); intro v2 w2 hr_ hb_ hg_ hn_; clear hg_ hn_; have HR2 := Aside0.mk hr_; have HB2 := Aside0.mk hb_; have hc32 := blk_cell (blk_below HBa.out.1 hb_) 3; clear hr_ hb_)
        | ((with_reducible refine gate_builtin (b := .append) (xs := #[.tmp 46, .tmp 48]) rfl ?_); at_builtin; refine Kd.R_append_rows (Kd.int .i64) (Rr := (Kd.int .i64).K w2) (w0 := wa) wa.heap.size rfl (.tmp 46) (.tmp 48) 24 3 (.int .i64 0) 8 rfl Try.underlying24 info3 rfl (by decide) (by omega) v2 [] y.f3 A3' y.f3.length c3' (fun _ => True) (fun _ => False) rfl rfl HR2.out (Kd.C_below (Kd.C_below HY3.out HSa.out.1.2.2) HB2.out) (fun _ _ h => h) (fun _ h => h.elim) (fun _ _ => trivial) HB2.out HB2.out.size (by have := HN80.out; have := HN3.out; simp only [List.length_nil]; omega) ?_; intro v3 w3 hr_ hb_ hg_ hn_; clear hg_ hn_; have HR3 := Aside0.mk hr_; have HB3 := Aside0.mk hb_; have hc33 := blk_cell (blk_below HBa.out.1 hb_) 3; have hf33 := blk_frozen (blk_below HBa.out.1 hb_) 3; obtain ⟨At, ct, e2_⟩ : ∃ A c, v3 = Value.slice A n3 c := (by have h := Kd.R_slice HR3.out; rw [List.nil_append, HN3.out] at h; exact h); subst e2_; clear hr_ hb_))
      generalize hwe : World.setCell w3 _ _ = we
      have hbe : we.heap[gc]? = some (.cells #[.bool y.f0, .int .i64 y.f1, .int .i64 y.f2, .slice At n3 ct, .slice A4' y.f4.length c4'] 54 (0, 0)) := by rw [← hwe]; simpa using blk_set (blk_below HBa.out.1 HB3.out) 3 (.slice At n3 ct)
      have hkw : Kept (fun q => q = gc) w3 we := by rw [← hwe]; exact kept_set (F := fun q => q = gc) w3 ⟨gc, 3, none⟩ _ rfl
      have HSe := Aside0.mk ((HSa.out.below HB3.out).kept hkw (fun q hq => by subst hq; exact HBa.out.2) (fun q hq => by subst hq; exact HGE.out))
      have hR3 : Kd.R (Kd.int .i64) 3 w3 wa.heap.size (fun _ => True) (.slice At n3 ct) y.f3 := HR3.out
      have HTe : Aside0 (Rw (Kd.int .i64) 3 we w.heap.size F FX (.slice At n3 ct) y.f3) := ⟨Kd.R_mono (R_kept_ (Kd.R_mono (Kd.R_lower (Kd.R_bound hR3) HSa.out.1.2.2.size) (ok' := fun q => wa.heap.size ≤ q ∧ q < w3.heap.size) (fun q hq => ⟨hq.2.1, hq.2.2.1⟩)) hkw (fun q hq he => by subst he; have := blk_lt HBa.out.1; omega)) (fun q hq => HSa.out.off_new hq.1 (Nat.lt_of_lt_of_le hq.2 hkw.size))⟩
      have HBe : Aside0 (Bk we F FX gc #[.bool y.f0, .int .i64 y.f1, .int .i64 y.f2, .slice At n3 ct, .slice A4' y.f4.length c4'] 54) := ⟨⟨hbe, HBa.out.2⟩⟩
      have HAe := Aside0.mk ((HAa.out.below HB3.out).kept hkw HNE.out)
      have HCT := Aside0.mk (Kd.R_reads' HTe.out).2.1
      clear hwe hkw hR3 HR3 HB3 hc33 hf33 HR2 HB2 hc32 hc3 HSa HBa hbe HAa
      have he0 := blk_cell HBe.out.1 0
      have he1 := blk_cell HBe.out.1 1
      have he2 := blk_cell HBe.out.1 2
      have he3 := blk_cell HBe.out.1 3
      have he4 := blk_cell HBe.out.1 4
      obtain ⟨j, hj⟩ : ∃ j, min n3 y.f4.length = j := ⟨_, rfl⟩
      have HJ := Aside0.mk hj
      clear hj
      have hnear := near_calls HSe.out.2.1 y.f0 y.f1 y.f2 At ct y.f3 A4' y.f4.length c4' (by rw [HN3.out]; exact HTe.out) (by rw [HN3.out]; exact fun q hq => (HTe.out.1 q hq).2.1) (by have := HN80.out; have := HN3.out; omega) (by have := HN80.out; omega) HYC4.out
      rw [HN3.out] at hnear
      have HNR := Aside0.mk hnear
      clear hnear
      go_upto_region 12 with (first
        | (go_at_call 40; refine HNR.out.mono ?_; rintro e_ w4 ⟨ix, tx_, tl, rfl, htl, hR4, hk4⟩; rw [HJ.out]; have hb4 := blk_kept hk4 HBe.out.1 (own_ne (Kd.own_of_R HTe.out) HBe.out.1 (by decide)); have HTL := Aside0.mk htl; have HR4 := Aside0.mk hR4; have HK4 := Aside0.mk hk4; have HB4 := Aside0.mk hb4; have hg0 := blk_cell hb4 0; have hz0 := blk_frozen hb4 0; have hg1 := blk_cell hb4 1; have hz1 := blk_frozen hb4 1; have hg2 := blk_cell hb4 2; have hz2 := blk_frozen hb4 2; have hg3 := blk_cell hb4 3; have hz3 := blk_frozen hb4 3; have hg4 := blk_cell hb4 4; have hz4 := blk_frozen hb4 4; clear htl hR4 hk4 hb4 he0 he1 he2 he3 he4))
      generalize hw5 : World.setCell _ _ _ = w5
      obtain ⟨hb5, hk5⟩ := sets5 w4 gc 54 _ _ _ _ _ (.bool y.f0) (.int .i64 ix) (.int .i64 tx_) (.slice At j ct) (.slice A4' j c4') HB4.out
      rw [hw5] at hb5 hk5
      have hS4 := HSe.out.kept HK4.out (fun q hq => ⟨(HTe.out.1 q hq.symm).1, (HTe.out.1 q hq.symm).2.1⟩) (fun q hq => Kd.R_base HTe.out q hq.symm)
      have HS5 := Aside0.mk (hS4.kept hk5 (fun q hq => by subst hq; exact HBe.out.2) (fun q hq => by subst hq; exact HGE.out))
      have HT5 : Aside0 (Rw (Kd.int .i64) 3 w5 w.heap.size F FX (.slice At n3 ct) tl) := ⟨Kd.R_reok rfl (R_kept_ (Kd.R_tight rfl HR4.out) hk5 (fun q hq he => by subst he; exact own_ne (Kd.own_of_R HR4.out) HB4.out (by decide) hq)) (fun q hq => ((HR4.out.1 q hq).size HK4.out.size).size hk5.size)⟩
      have HB5 : Aside0 (Bk w5 F FX gc #[.bool y.f0, .int .i64 ix, .int .i64 tx_, .slice At j ct, .slice A4' j c4'] 54) := ⟨⟨hb5, HBe.out.2⟩⟩
      have HA5 := Aside0.mk ((HAe.out.kept HK4.out (own_ne (Kd.own_of_R HTe.out) HAe.out.1 (by decide))).kept hk5 HNE.out)
      clear hw5 hk5 hb5 hS4 HSe HTe HBe HR4 HK4 HB4 HNR hg0 hz0 hg1 hz1 hg2 hz2 hg3 hz3 hg4 hz4 HAe
      have he0 := blk_cell HB5.out.1 0
      have he1 := blk_cell HB5.out.1 1
      have he2 := blk_cell HB5.out.1 2
      have he3 := blk_cell HB5.out.1 3
      have he4 := blk_cell HB5.out.1 4
      have HJN := Aside0.mk (show j ≤ n3 ∧ j ≤ y.f4.length ∧ j ≤ 80 by have := HJ.out; have := HN80.out; omega)
      have HLT := Aside0.mk (show (tl.take j).length = j by rw [List.length_take, HTL.out]; have := HJN.out; omega)
      have HLE := Aside0.mk (show (y.f4.take j).length = j by rw [List.length_take]; have := HJN.out; omega)
      have HM := Aside0.mk (show ∀ z ∈ y.f4.take j, z.f4.length ≤ 30 from fun z hz => HOK.out.2.2 z (List.mem_of_mem_take hz))
      have hput := putn_live HS5.out.1 ix tx_ At j ct (tl.take j) A4' j c4' (y.f4.take j) HLT.out HLE.out (C_frontAll HT5.out.stH rfl j (by rw [HTL.out]; exact HJN.out.1)) (by have := HJN.out; have := HCT.out; omega) (by have := HJN.out; omega) (C_frontAll (stable_of_C HY4.out HS5.out.1.2.2 HS5.out.1.ge) rfl j HJN.out.2.1) (by have := HJN.out; have := HYC4.out; omega) (by have := HJN.out; omega) (fun z hz => by have := HM.out z hz; omega)
      obtain ⟨pr, hpr⟩ : ∃ p, putF 0 l ix tx_ (tl.take j) (y.f4.take j) = p := ⟨_, rfl⟩
      have HPR := Aside0.mk hpr
      rw [hpr] at hput
      have HPU := Aside0.mk hput
      clear hput hpr
      go_upto_region 13 with (first
        | (go_at_call 32; refine HPU.out.mono ?_; rintro e_ w6 ⟨F6, rfl, hl6, hF6, hk6⟩; have HS6 := Aside0.mk (HS5.out.putH hl6 hF6 hk6); have HT6 := Aside0.mk (HT5.out.putH hF6 hk6); have HB6 := Aside0.mk (HB5.out.putH hF6 hk6); have HA6 := Aside0.mk (HA5.out.putH hF6 hk6); clear hl6 hF6 hk6))
      clear HS5 HT5 HB5 HPU he0 he1 he2 he3 he4 HA5
      have he0 := blk_cell HB6.out.1 0
      have he1 := blk_cell HB6.out.1 1
      have he2 := blk_cell HB6.out.1 2
      have he3 := blk_cell HB6.out.1 3
      have he4 := blk_cell HB6.out.1 4
      have HYP := Aside0.mk (yputn_calls HS6.out.2.1 HS6.out.1.2.2.size ix tx_ At j ct (tl.take j) A4' j c4' (y.f4.take j) HLT.out HLE.out (C_frontAll HT6.out.stX rfl j (by rw [HTL.out]; exact HJN.out.1)) (by have := HJN.out; omega) (C_frontAll (stable_of_C HY4.out HS6.out.1.2.2 HS6.out.2.1.ge) rfl j HJN.out.2.1) (by have := HJN.out; omega))
      go_wp2_with (first
        | (go_at_call 41; refine HYP.out.mono ?_; rintro e_ w7 ⟨FX7, n7, r7, ts7, es7, rfl, hy7, hF7, hk7⟩; have HS7 := Aside0.mk (HS6.out.putX hy7 hF7 hk7); have HA7 := Aside0.mk (HA6.out.putX hF7 hk7); clear hy7 hF7 hk7))
      case roundEnd =>
        have hwi : wrap64 ((i : Int) + 1) = (i : Int) + 1 := by unfold wrap64; omega
        refine ⟨⟨i + 1, F6, FX7, pr.2.2, ts7, es7, by first | rfl | (rw [hwi]; rfl), hli, HS7, HA7, ⟨?_⟩⟩, meas_step hli (by first | rfl | exact hwi)⟩
        rw [← HPR.out]
        exact put_all (p := fun e => e.f4.length ≤ 30) HMB.out HM.out
    · have q1 := eq_false (show ¬ (i : Int) < (l0.length : Int) by omega)
      obtain ⟨wa, hwa⟩ : ∃ wa, wa = wr := ⟨_, rfl⟩
      subst hwa
      have HGE := Aside0.mk (show w.heap.size ≤ ga by have := HGA.out; omega)
      have HSa := HS
      have HBa := HA
      go_upto_region 14 with (fail)
      obtain ⟨n3, hn3⟩ : ∃ n, x.f3.length = n := ⟨_, rfl⟩
      have HN3 := Aside0.mk hn3
      have hn80 : n3 ≤ 80 ∧ x.f4.length ≤ 80 := ⟨by have := HOKX.out.1; omega, HOKX.out.2.1⟩
      have HN80 := Aside0.mk hn80
      have hc3 := blk_cell HBa.out.1 3
      clear hn3 hn80
      go_upto_region 15 with (first
        | ((with_reducible refine gate_dst (N := 74) rfl ?_); refine Kd.R_lit (Kd.int .i64) _ 3 ?hg (N := 74) ?hd (xs := ([] : List Int)) (inner := []) (ok := fun _ => True) (okp := fun _ => False) ?hr ?hp (fun _ _ => trivial) trivial (Below.refl _ _) (Nat.le_refl _) (by simp) ?_; (case hd => rfl); (case hg => rfl); (case hr => first | (go_simp; done) | (go_simp; rfl)); (case hp => exact Reps.none _ _); intro v2 w2 hr_ hb_ hg_ hn_; clear hg_ hn_; have HR2 := Aside0.mk hr_; have HB2 := Aside0.mk hb_; have hc32 := blk_cell (blk_below HBa.out.1 hb_) 3; clear hr_ hb_)
        | ((with_reducible refine gate_builtin (b := .append) (xs := #[.tmp 74, .tmp 76]) rfl ?_); at_builtin; refine Kd.R_append_rows (Kd.int .i64) (Rr := (Kd.int .i64).K w2) (w0 := wa) wa.heap.size rfl (.tmp 74) (.tmp 76) 24 3 (.int .i64 0) 8 rfl Try.underlying24 info3 rfl (by decide) (by omega) v2 [] x.f3 A3 x.f3.length c3 (fun _ => True) (fun _ => False) rfl rfl HR2.out (Kd.C_below (Kd.C_below HC3.out HSa.out.1.2.2) HB2.out) (fun _ _ h => h) (fun _ h => h.elim) (fun _ _ => trivial) HB2.out HB2.out.size (by have := HN80.out; have := HN3.out; simp only [List.length_nil]; omega) ?_; intro v3 w3 hr_ hb_ hg_ hn_; clear hg_ hn_; have HR3 := Aside0.mk hr_; have HB3 := Aside0.mk hb_; have hc33 := blk_cell (blk_below HBa.out.1 hb_) 3; have hf33 := blk_frozen (blk_below HBa.out.1 hb_) 3; obtain ⟨At, ct, e2_⟩ : ∃ A c, v3 = Value.slice A n3 c := (by have h := Kd.R_slice HR3.out; rw [List.nil_append, HN3.out] at h; exact h); subst e2_; clear hr_ hb_))
      generalize hwe : World.setCell w3 _ _ = we
      have hbe : we.heap[ga]? = some (.cells #[.bool x.f0, .int .i64 x.f1, .int .i64 x.f2, .slice At n3 ct, .slice A4 x.f4.length c4] 54 (0, 0)) := by rw [← hwe]; simpa using blk_set (blk_below HBa.out.1 HB3.out) 3 (.slice At n3 ct)
      have hkw : Kept (fun q => q = ga) w3 we := by rw [← hwe]; exact kept_set (F := fun q => q = ga) w3 ⟨ga, 3, none⟩ _ rfl
      have HSe := Aside0.mk ((HSa.out.below HB3.out).kept hkw (fun q hq => by subst hq; exact HBa.out.2) (fun q hq => by subst hq; exact HGE.out))
      have hR3 : Kd.R (Kd.int .i64) 3 w3 wa.heap.size (fun _ => True) (.slice At n3 ct) x.f3 := HR3.out
      have HTe : Aside0 (Rw (Kd.int .i64) 3 we w.heap.size F FX (.slice At n3 ct) x.f3) := ⟨Kd.R_mono (R_kept_ (Kd.R_mono (Kd.R_lower (Kd.R_bound hR3) HSa.out.1.2.2.size) (ok' := fun q => wa.heap.size ≤ q ∧ q < w3.heap.size) (fun q hq => ⟨hq.2.1, hq.2.2.1⟩)) hkw (fun q hq he => by subst he; have := blk_lt HBa.out.1; omega)) (fun q hq => HSa.out.off_new hq.1 (Nat.lt_of_lt_of_le hq.2 hkw.size))⟩
      have HBe : Aside0 (Bk we F FX ga #[.bool x.f0, .int .i64 x.f1, .int .i64 x.f2, .slice At n3 ct, .slice A4 x.f4.length c4] 54) := ⟨⟨hbe, HBa.out.2⟩⟩
      have HCT := Aside0.mk (Kd.R_reads' HTe.out).2.1
      clear hwe hkw hR3 HR3 HB3 hc33 hf33 HR2 HB2 hc32 hc3 HSa HBa hbe
      have he0 := blk_cell HBe.out.1 0
      have he1 := blk_cell HBe.out.1 1
      have he2 := blk_cell HBe.out.1 2
      have he3 := blk_cell HBe.out.1 3
      have he4 := blk_cell HBe.out.1 4
      obtain ⟨j, hj⟩ : ∃ j, min n3 x.f4.length = j := ⟨_, rfl⟩
      have HJ := Aside0.mk hj
      clear hj
      have hnear := near_calls HSe.out.2.1 x.f0 x.f1 x.f2 At ct x.f3 A4 x.f4.length c4 (by rw [HN3.out]; exact HTe.out) (by rw [HN3.out]; exact fun q hq => (HTe.out.1 q hq).2.1) (by have := HN80.out; have := HN3.out; omega) (by have := HN80.out; omega) H4.out
      rw [HN3.out] at hnear
      have HNR := Aside0.mk hnear
      clear hnear
      go_upto_region 16 with (first
        | (go_at_call 40; refine HNR.out.mono ?_; rintro e_ w4 ⟨ix, tx_, tl, rfl, htl, hR4, hk4⟩; rw [HJ.out]; have hb4 := blk_kept hk4 HBe.out.1 (own_ne (Kd.own_of_R HTe.out) HBe.out.1 (by decide)); have HTL := Aside0.mk htl; have HR4 := Aside0.mk hR4; have HK4 := Aside0.mk hk4; have HB4 := Aside0.mk hb4; have hg0 := blk_cell hb4 0; have hz0 := blk_frozen hb4 0; have hg1 := blk_cell hb4 1; have hz1 := blk_frozen hb4 1; have hg2 := blk_cell hb4 2; have hz2 := blk_frozen hb4 2; have hg3 := blk_cell hb4 3; have hz3 := blk_frozen hb4 3; have hg4 := blk_cell hb4 4; have hz4 := blk_frozen hb4 4; clear htl hR4 hk4 hb4 he0 he1 he2 he3 he4))
      generalize hw5 : World.setCell _ _ _ = w5
      obtain ⟨hb5, hk5⟩ := sets5 w4 ga 54 _ _ _ _ _ (.bool x.f0) (.int .i64 ix) (.int .i64 tx_) (.slice At j ct) (.slice A4 j c4) HB4.out
      rw [hw5] at hb5 hk5
      have hS4 := HSe.out.kept HK4.out (fun q hq => ⟨(HTe.out.1 q hq.symm).1, (HTe.out.1 q hq.symm).2.1⟩) (fun q hq => Kd.R_base HTe.out q hq.symm)
      have HS5 := Aside0.mk (hS4.kept hk5 (fun q hq => by subst hq; exact HBe.out.2) (fun q hq => by subst hq; exact HGE.out))
      have HT5 : Aside0 (Rw (Kd.int .i64) 3 w5 w.heap.size F FX (.slice At n3 ct) tl) := ⟨Kd.R_reok rfl (R_kept_ (Kd.R_tight rfl HR4.out) hk5 (fun q hq he => by subst he; exact own_ne (Kd.own_of_R HR4.out) HB4.out (by decide) hq)) (fun q hq => ((HR4.out.1 q hq).size HK4.out.size).size hk5.size)⟩
      have HB5 : Aside0 (Bk w5 F FX ga #[.bool x.f0, .int .i64 ix, .int .i64 tx_, .slice At j ct, .slice A4 j c4] 54) := ⟨⟨hb5, HBe.out.2⟩⟩
      clear hw5 hk5 hb5 hS4 HSe HTe HBe HR4 HK4 HB4 HNR hg0 hz0 hg1 hz1 hg2 hz2 hg3 hz3 hg4 hz4
      have he0 := blk_cell HB5.out.1 0
      have he1 := blk_cell HB5.out.1 1
      have he2 := blk_cell HB5.out.1 2
      have he3 := blk_cell HB5.out.1 3
      have he4 := blk_cell HB5.out.1 4
      have HJN := Aside0.mk (show j ≤ n3 ∧ j ≤ x.f4.length ∧ j ≤ 80 by have := HJ.out; have := HN80.out; omega)
      have HLT := Aside0.mk (show (tl.take j).length = j by rw [List.length_take, HTL.out]; have := HJN.out; omega)
      have HLE := Aside0.mk (show (x.f4.take j).length = j by rw [List.length_take]; have := HJN.out; omega)
      have HM := Aside0.mk (show ∀ z ∈ x.f4.take j, z.f4.length ≤ 30 from fun z hz => HOKX.out.2.2 z (List.mem_of_mem_take hz))
      have hput := putn_live HS5.out.1 ix tx_ At j ct (tl.take j) A4 j c4 (x.f4.take j) HLT.out HLE.out (C_frontAll HT5.out.stH rfl j (by rw [HTL.out]; exact HJN.out.1)) (by have := HJN.out; have := HCT.out; omega) (by have := HJN.out; omega) (C_frontAll (stable_of_C HC4.out HS5.out.1.2.2 HS5.out.1.ge) rfl j HJN.out.2.1) (by have := HJN.out; have := H4.out; omega) (by have := HJN.out; omega) (fun z hz => by have := HM.out z hz; omega)
      obtain ⟨pr, hpr⟩ : ∃ p, putF 0 l ix tx_ (tl.take j) (x.f4.take j) = p := ⟨_, rfl⟩
      have HPR := Aside0.mk hpr
      rw [hpr] at hput
      have HPU := Aside0.mk hput
      clear hput hpr
      go_upto_region 17 with (first
        | (go_at_call 32; refine HPU.out.mono ?_; rintro e_ w6 ⟨F6, rfl, hl6, hF6, hk6⟩; have HS6 := Aside0.mk (HS5.out.putH hl6 hF6 hk6); have HT6 := Aside0.mk (HT5.out.putH hF6 hk6); have HB6 := Aside0.mk (HB5.out.putH hF6 hk6); clear hl6 hF6 hk6))
      clear HS5 HT5 HB5 HPU he0 he1 he2 he3 he4
      by_cases he : pr.2.1 = 0
      case neg =>
        have d1 : (pr.2.1 != 0) = true := bne_iff_ne.mpr he
        have d1' : (pr.2.1 == 0) = false := beq_eq_false_iff_ne.mpr he
        clear he
        go_wp2
        go_ret
        exact ⟨rfl, HS6.out.1.2.2⟩
      have hag := put_again (b := 0) (x := ix) (t := tx_) (l := l) (ts := tl.take j) (es := x.f4.take j) HS.out.1.bounds.2 (by rw [HPR.out]; exact he)
      have hall := put_all (p := fun e => e.f4.length ≤ 30) (b := 0) (x := ix) (t := tx_) (ts := tl.take j) (es := x.f4.take j) HMB.out HM.out
      rw [HPR.out] at hag hall
      rw [HLE.out] at hag
      obtain ⟨hag1, hag2, hag3, hag4, hag5⟩ := hag
      have HAG := Aside0.mk hag5
      have HALL := Aside0.mk hall
      rw [he, hag1]
      obtain ⟨l6, hl6⟩ : ∃ q, pr.2.2 = q := ⟨_, rfl⟩
      rw [hl6] at HS6 HAG HALL
      clear he hag1 hag2 hag5 hall hl6 HPR HM HS HA HMB
      have hix0 : 0 ≤ ix := hag4
      have HMM := Aside0.mk (show ∀ z ∈ l6, z.f1.f4.length < 17592186044416 from fun z hz => by have := HALL.out z hz; omega)
      have HFI := Aside0.mk (show fromIx 0 l6 0 = 0 by unfold fromIx; rw [if_neg (by omega)])
      go_upto_region 20 with (first
        | (go_at_call 42; refine (from_calls HS6.out.1.1 HMM.out 0 (by omega) (by omega)).mono ?_; rintro e_ w7 ⟨A1, c1, A2, c2, us, ms, rfl, hu_, hm_, hb_, hus, hms⟩; have HU := Aside0.mk hu_; have HM := Aside0.mk hm_; have HB7b := Aside0.mk hb_; have HUS := Aside0.mk hus; have HMS := Aside0.mk hms; clear hu_ hm_ hb_ hus hms))
      have hus : us = l6.map (·.f0) := by rw [HUS.out, HFI.out, List.drop_zero]
      have hms : ms = l6.map (·.f1) := by rw [HMS.out, HFI.out, List.drop_zero]
      subst hus
      subst hms
      obtain ⟨U, hU⟩ : ∃ U, l6.map (·.f0) = U := ⟨_, rfl⟩
      obtain ⟨E, hE⟩ : ∃ E, l6.map (·.f1) = E := ⟨_, rfl⟩
      have HUD := Aside0.mk hU
      have HED := Aside0.mk hE
      rw [hU] at HU ⊢
      rw [hE] at HM ⊢
      have HEB := Aside0.mk (show ∀ z ∈ E, z.f4.length ≤ 1000000 from fun z hz => by rw [← hE] at hz; obtain ⟨y, hy, rfl⟩ := List.mem_map.1 hz; have := HALL.out y hy; omega)
      have HUL := Aside0.mk (show U.length = l6.length by rw [← hU, List.length_map])
      have HEL := Aside0.mk (show E.length = l6.length by rw [← hE, List.length_map])
      clear hU hE HUS HMS
      have HU7 : Aside0 (Rw (Kd.int .i64) 3 w7 w6.heap.size F6 FX (.slice A1 U.length c1) U) := ⟨Kd.R_mono (Kd.R_bound HU.out) (fun q hq => HS6.out.off_new hq.2.1 hq.2.2.1)⟩
      have HM7 : Aside0 (Rw k77 77 w7 w6.heap.size F6 FX (.slice A2 E.length c2) E) := ⟨Kd.R_mono (Kd.R_bound HM.out) (fun q hq => HS6.out.off_new hq.2.1 hq.2.2.1)⟩
      have HS7 := Aside0.mk (HS6.out.below HB7b.out)
      have HT7 := Aside0.mk (HT6.out.below HB7b.out)
      have HB7 := Aside0.mk (HB6.out.below HB7b.out)
      clear HU HM HS6 HT6 HB6 HB7b
      have he4 := blk_cell HB7.out.1 4
      have hj80 : j ≤ 80 := HJN.out.2.2
      go_upto_region 21 with (first
        | (go_at_call 34; refine (within_calls _ ((j : Int) + 1) _ (by omega) (by omega)).mono ?_; rintro e_ w' ⟨v, rfl, ⟨n8, rfl⟩, hv0, hv1⟩))
      obtain ⟨k, rfl⟩ := Int.eq_ofNat_of_zero_le hv0
      have hkj : k ≤ j := by omega
      have HKJ := Aside0.mk hkj
      generalize hw8 : World.drewN w7 n8 = w8
      have hb8 : Below w7.heap.size w7 w8 := by rw [← hw8]; exact pw_below_drewN (Below.refl _ _) _
      have HBD := Aside0.mk (below_drew hb8)
      have HS8 := Aside0.mk (HS7.out.below HBD.out)
      have HT8 := Aside0.mk (HT7.out.below HBD.out)
      have HB8 := Aside0.mk (HB7.out.below HBD.out)
      have HU8 := Aside0.mk (HU7.out.below HBD.out)
      have HM8 := Aside0.mk (HM7.out.below HBD.out)
      have hjc3 : j ≤ ct := by have := HJN.out; have := HCT.out; omega
      have hjc4 : j ≤ c4 := by have := HJN.out; have := H4.out; omega
      have hcutT := cut_pre_ 24 3 Try.underlying24 info3 At j ct k hkj hjc3
      have hcutE := cut_pre_ 52 77 Try.underlying52 info77f A4 j c4 k hkj hjc4
      have hq0 := eq_true (show 0 ≤ (k : Int) by omega)
      clear hw8 hb8 HS7 HT7 HB7 HU7 HM7 he4 hv0 hv1 hkj hjc3 hjc4
      refine start_ (n := 19) (S := fun w' => w'.cell? ⟨ga, 1, none⟩ = some (Value.int .i64 ix) ∧ w'.cell? ⟨ga, 2, none⟩ = some (Value.int .i64 tx_) ∧ w'.cell? ⟨ga, 3, none⟩ = some (Value.slice At j ct) ∧ w'.cell? ⟨ga, 4, none⟩ = some (Value.slice A4 j c4)) (ds := [13]) #[false, false, false, false, false, false, false, false, false, false, false, false, false, false, false, false, false, false, false] (by kernel_rfl) rfl rfl ⟨(blk_cell HB8.out.1 1).trans rfl, (blk_cell HB8.out.1 2).trans rfl, (blk_cell HB8.out.1 3).trans rfl, (blk_cell HB8.out.1 4).trans rfl⟩ (fun hHeld => ?_)
      generalize w8.drew = wd at HBD HS8 HT8 HB8 HU8 HM8 hHeld ⊢
      refine pure_ (i := 0) (N := some 109) (v := ?_) (a' := ?_) #[true, false, false, false, false, false, false, false, false, false, false, false, false, false, false, false, false, false, false] rfl rfl (by kernel_rfl) (fun _ _ _ h => h) (Or.inl ⟨by rfl, ?_⟩) ?_ ?_
      rotate_left
      · intro w'
        go_simp
        with_reducible rfl
      rotate_left
      · simp only [Act.put, List.setIfInBounds_toArray, List.set_cons_zero, List.set_cons_succ, i64_w, i32_w]
        rfl
      refine pure_ (i := 1) (N := some 110) (v := ?_) (a' := ?_) #[true, true, false, false, false, false, false, false, false, false, false, false, false, false, false, false, false, false, false] rfl rfl (by kernel_rfl) (fun _ _ _ h => h) (Or.inl ⟨by rfl, ?_⟩) ?_ ?_
      rotate_left
      · intro w'
        go_simp
        with_reducible rfl
      rotate_left
      · simp only [Act.put, List.setIfInBounds_toArray, List.set_cons_zero, List.set_cons_succ, i64_w, i32_w]
        rfl
      refine pure_ (i := 3) (N := some 112) (v := ?_) (a' := ?_) #[true, true, false, true, false, false, false, false, false, false, false, false, false, false, false, false, false, false, false] rfl rfl (by kernel_rfl) (fun _ _ _ h => h) (Or.inl ⟨by rfl, ?_⟩) ?_ ?_
      rotate_left
      · intro w'
        go_simp
        with_reducible rfl
      rotate_left
      · simp only [Act.put, List.setIfInBounds_toArray, List.set_cons_zero, List.set_cons_succ, i64_w, i32_w]
        rfl
      refine pure_ (i := 5) (N := some 114) (v := ?_) (a' := ?_) #[true, true, false, true, false, true, false, false, false, false, false, false, false, false, false, false, false, false, false] rfl rfl (by kernel_rfl) (fun _ _ _ h => h) (Or.inl ⟨by rfl, ?_⟩) ?_ ?_
      rotate_left
      · intro w'
        go_simp
        with_reducible rfl
      rotate_left
      · simp only [Act.put, List.setIfInBounds_toArray, List.set_cons_zero, List.set_cons_succ, i64_w, i32_w]
        rfl
      refine pure_ (i := 7) (N := some 116) (v := ?_) (a' := ?_) #[true, true, false, true, false, true, false, true, false, false, false, false, false, false, false, false, false, false, false] rfl rfl (by kernel_rfl) (fun _ _ _ h => h) (Or.inl ⟨by rfl, ?_⟩) ?_ ?_
      rotate_left
      · intro w'
        go_simp
        with_reducible rfl
      rotate_left
      · simp only [Act.put, List.setIfInBounds_toArray, List.set_cons_zero, List.set_cons_succ, i64_w, i32_w]
        rfl
      refine pure_ (i := 9) (N := some 118) (v := ?_) (a' := ?_) #[true, true, false, true, false, true, false, true, false, true, false, false, false, false, false, false, false, false, false] rfl rfl (by kernel_rfl) (fun _ _ _ h => h) (Or.inl ⟨by rfl, ?_⟩) ?_ ?_
      rotate_left
      · intro w'
        go_simp
        with_reducible rfl
      rotate_left
      · simp only [Act.put, List.setIfInBounds_toArray, List.set_cons_zero, List.set_cons_succ, i64_w, i32_w]
        rfl
      refine pure_ (i := 11) (N := some 120) (v := ?_) (a' := ?_) #[true, true, false, true, false, true, false, true, false, true, false, true, false, false, false, false, false, false, false] rfl rfl (by kernel_rfl) (fun _ _ _ h => h) (Or.inl ⟨by rfl, ?_⟩) ?_ ?_
      rotate_left
      · intro w'
        go_simp
        with_reducible rfl
      rotate_left
      · simp only [Act.put, List.setIfInBounds_toArray, List.set_cons_zero, List.set_cons_succ, i64_w, i32_w]
        rfl
      refine take_ (i := 2) (N := some 111) (v := ?_) (a' := ?_) #[true, true, true, true, false, true, false, true, false, true, false, true, false, false, false, false, false, false, false] rfl rfl (by kernel_rfl) (fun _ _ _ h => h) (Or.inl ⟨by rfl, ?_⟩) hHeld ?_ ?_
      rotate_left
      · rintro w' ⟨s0, s1, s2, s3⟩
        go_simp
        with_reducible rfl
      rotate_left
      · simp only [Act.put, List.setIfInBounds_toArray, List.set_cons_zero, List.set_cons_succ, i64_w, i32_w]
        rfl
      refine take_ (i := 4) (N := some 113) (v := ?_) (a' := ?_) #[true, true, true, true, true, true, false, true, false, true, false, true, false, false, false, false, false, false, false] rfl rfl (by kernel_rfl) (fun _ _ _ h => h) (Or.inl ⟨by rfl, ?_⟩) hHeld ?_ ?_
      rotate_left
      · rintro w' ⟨s0, s1, s2, s3⟩
        go_simp
        with_reducible rfl
      rotate_left
      · simp only [Act.put, List.setIfInBounds_toArray, List.set_cons_zero, List.set_cons_succ, i64_w, i32_w]
        rfl
      refine take_ (i := 6) (N := some 115) (v := ?_) (a' := ?_) #[true, true, true, true, true, true, true, true, false, true, false, true, false, false, false, false, false, false, false] rfl rfl (by kernel_rfl) (fun _ _ _ h => h) (Or.inl ⟨by rfl, ?_⟩) hHeld ?_ ?_
      rotate_left
      · rintro w' ⟨s0, s1, s2, s3⟩
        go_simp
        with_reducible rfl
      rotate_left
      · simp only [Act.put, List.setIfInBounds_toArray, List.set_cons_zero, List.set_cons_succ, i64_w, i32_w]
        rfl
      refine pure_ (i := 8) (N := some 117) (v := ?_) (a' := ?_) #[true, true, true, true, true, true, true, true, true, true, false, true, false, false, false, false, false, false, false] rfl rfl (by kernel_rfl) (fun _ _ _ h => h) (Or.inl ⟨by rfl, ?_⟩) ?_ ?_
      rotate_left
      · intro w'
        go_simp
        with_reducible rfl
      rotate_left
      · simp only [Act.put, List.setIfInBounds_toArray, List.set_cons_zero, List.set_cons_succ, i64_w, i32_w]
        rfl
      refine take_ (i := 10) (N := some 119) (v := ?_) (a' := ?_) #[true, true, true, true, true, true, true, true, true, true, true, true, false, false, false, false, false, false, false] rfl rfl (by kernel_rfl) (fun _ _ _ h => h) (Or.inl ⟨by rfl, ?_⟩) hHeld ?_ ?_
      rotate_left
      · rintro w' ⟨s0, s1, s2, s3⟩
        go_simp
        with_reducible rfl
      rotate_left
      · simp only [Act.put, List.setIfInBounds_toArray, List.set_cons_zero, List.set_cons_succ, i64_w, i32_w]
        rfl
      refine pure_ (i := 12) (N := some 121) (v := ?_) (a' := ?_) #[true, true, true, true, true, true, true, true, true, true, true, true, true, false, false, false, false, false, false] rfl rfl (by kernel_rfl) (fun _ _ _ h => h) (Or.inl ⟨by rfl, ?_⟩) ?_ ?_
      rotate_left
      · intro w'
        go_simp
        with_reducible rfl
      rotate_left
      · simp only [Act.put, List.setIfInBounds_toArray, List.set_cons_zero, List.set_cons_succ, i64_w, i32_w]
        rfl
      refine last_ (i := 13) (N := some 122) #[true, true, true, true, true, true, true, true, true, true, true, true, true, true, false, false, false, false, false] rfl rfl (by kernel_rfl) (by decide) (fun K hK => ?_)
      have hp9 := putn_live HS8.out.1 ix tx_ At k ct ((tl.take j).take k) A4 k c4 ((x.f4.take j).take k) (by rw [List.length_take, HLT.out]; have := HKJ.out; omega) (by rw [List.length_take, HLE.out]; have := HKJ.out; omega) (C_frontAll (C_frontAll HT8.out.stH rfl j (by rw [HTL.out]; exact HJN.out.1)) HLT.out k HKJ.out) (by have := HKJ.out; have := HJN.out; have := HCT.out; omega) (by have := HKJ.out; omega) (C_frontAll (C_frontAll (stable_of_C HC4.out HS8.out.1.2.2 HS8.out.1.ge) rfl j HJN.out.2.1) HLE.out k HKJ.out) (by have := HKJ.out; have := HJN.out; have := H4.out; omega) (by have := HKJ.out; omega) (fun z hz => by have := HOKX.out.2.2 z (List.mem_of_mem_take (List.mem_of_mem_take hz)); omega)
      rw [HAG.out k HKJ.out] at hp9
      refine goes_ Try.func32 (by kernel_rfl) rfl #[.pointer (some ⟨g, 0, none⟩), .int .i64 ix, .int .i64 tx_, .slice At k ct, .slice A4 k c4] (by rfl) rfl rfl (by simp only [List.map_toArray, List.map_cons, List.map_nil]; rfl) ?_
      with_reducible refine (hp9).mono ?_
      rintro e_ w9 ⟨F9, rfl, hl9, hF9, hk9⟩
      refine ⟨_, rfl, ?_⟩
      have HS9 := Aside0.mk (HS8.out.putH (l' := l6) hl9 hF9 hk9)
      have HT9 := Aside0.mk (HT8.out.putH hF9 hk9)
      have HU9 := Aside0.mk (HU8.out.putH hF9 hk9)
      have HM9 := Aside0.mk (HM8.out.putH hF9 hk9)
      have HB9 := Aside0.mk (HB8.out.putH hF9 hk9)
      clear hl9 hF9 hk9 hp9
      refine hK.out _ _ ?_
      clear hK K
      refine norm_ (a' := ?_) ?_ ?_
      rotate_left
      · show Act.put _ (some 122) _ = _
        simp only [Act.put, List.setIfInBounds_toArray, List.set_cons_zero, List.set_cons_succ, i64_w, i32_w]
        rfl
      refine pure_ (i := 14) (N := some 108) (v := ?_) (a' := ?_) #[true, true, true, true, true, true, true, true, true, true, true, true, true, true, true, false, false, false, false] rfl rfl (by kernel_rfl) (fun _ _ _ h => h) (Or.inl ⟨by rfl, ?_⟩) ?_ ?_
      rotate_left
      · intro w'
        go_simp
        with_reducible rfl
      rotate_left
      · simp only [Act.put, List.setIfInBounds_toArray, List.set_cons_zero, List.set_cons_succ, i64_w, i32_w]
        rfl
      refine pure_ (i := 15) (N := some 123) (v := ?_) (a' := ?_) #[true, true, true, true, true, true, true, true, true, true, true, true, true, true, true, true, false, false, false] rfl rfl (by kernel_rfl) (fun _ _ _ h => h) (Or.inl ⟨by rfl, ?_⟩) ?_ ?_
      rotate_left
      · intro w'
        go_simp
        with_reducible rfl
      rotate_left
      · simp only [Act.put, List.setIfInBounds_toArray, List.set_cons_zero, List.set_cons_succ, i64_w, i32_w]
        rfl
      refine pure_ (i := 16) (N := some 124) (v := ?_) (a' := ?_) #[true, true, true, true, true, true, true, true, true, true, true, true, true, true, true, true, true, false, false] rfl rfl (by kernel_rfl) (fun _ _ _ h => h) (Or.inl ⟨by rfl, ?_⟩) ?_ ?_
      rotate_left
      · intro w'
        go_simp
        with_reducible rfl
      rotate_left
      · simp only [Act.put, List.setIfInBounds_toArray, List.set_cons_zero, List.set_cons_succ, i64_w, i32_w]
        rfl
      refine pure_ (i := 17) (N := some 16) (v := ?_) (a' := ?_) #[true, true, true, true, true, true, true, true, true, true, true, true, true, true, true, true, true, true, false] rfl rfl (by kernel_rfl) (fun _ _ _ h => h) (Or.inl ⟨by rfl, ?_⟩) ?_ ?_
      rotate_left
      · intro w'
        go_simp
        with_reducible rfl
      rotate_left
      · simp only [Act.put, List.setIfInBounds_toArray, List.set_cons_zero, List.set_cons_succ, i64_w, i32_w]
        rfl
      refine pure_ (i := 18) (N := some 17) (v := ?_) (a' := ?_) #[true, true, true, true, true, true, true, true, true, true, true, true, true, true, true, true, true, true, true] rfl rfl (by kernel_rfl) (fun _ _ _ h => h) (Or.inl ⟨by rfl, ?_⟩) ?_ ?_
      rotate_left
      · intro w'
        go_simp
        with_reducible rfl
      rotate_left
      · simp only [Act.put, List.setIfInBounds_toArray, List.set_cons_zero, List.set_cons_succ, i64_w, i32_w]
        rfl
      refine done_ (by kernel_rfl) ?_
      clear hHeld hcutT hcutE
      have HJC := Aside0.mk (show j ≤ ct ∧ j ≤ c4 from ⟨by have := HJN.out; have := HCT.out; omega, by have := HJN.out; have := H4.out; omega⟩)
      have he1 := blk_cell HB9.out.1 1
      have he2 := blk_cell HB9.out.1 2
      have he3 := blk_cell HB9.out.1 3
      have he4 := blk_cell HB9.out.1 4
      have hput2 := putn_live HS9.out.1 ix tx_ At j ct (tl.take j) A4 j c4 (x.f4.take j) HLT.out HLE.out (C_frontAll HT9.out.stH rfl j (by rw [HTL.out]; exact HJN.out.1)) HJC.out.1 (by omega) (C_frontAll (stable_of_C HC4.out HS9.out.1.2.2 HS9.out.1.ge) rfl j HJN.out.2.1) HJC.out.2 (by omega) (fun z hz => by have := HOKX.out.2.2 z (List.mem_of_mem_take hz); omega)
      have hgj := HAG.out j (Nat.le_refl _)
      rw [show (tl.take j).take j = tl.take j from List.take_of_length_le (Nat.le_of_eq HLT.out), show (x.f4.take j).take j = x.f4.take j from List.take_of_length_le (Nat.le_of_eq HLE.out)] at hgj
      rw [hgj] at hput2
      have HPV := Aside0.mk hput2
      clear hput2 hgj
      go_upto_region 23 with (first
        | (go_at_call 32; refine HPV.out.mono ?_; rintro e_ w10 ⟨F10, rfl, hl10, hF10, hk10⟩; have HS10 := Aside0.mk (HS9.out.putH (l' := l6) hl10 hF10 hk10); have HU10 := Aside0.mk (HU9.out.putH hF10 hk10); have HM10 := Aside0.mk (HM9.out.putH hF10 hk10); have HB10 := Aside0.mk (HB9.out.putH hF10 hk10); clear hl10 hF10 hk10))
      clear HS9 HT9 HU9 HM9 HB9 HPV he1 he2 he3 he4
      go_upto_region 24 with (first
        | (go_at_call 42; refine (from_calls HS10.out.1.1 HMM.out 0 (by omega) (by omega)).mono ?_; rintro e_ w11 ⟨B1, d1, B2, d2, us, ms, rfl, hu_, hm_, hb_, hus, hms⟩; have HU := Aside0.mk hu_; have HM := Aside0.mk hm_; have HB11 := Aside0.mk hb_; have HUS := Aside0.mk hus; have HMS := Aside0.mk hms; clear hu_ hm_ hb_ hus hms))
      have hus : us = U := by rw [HUS.out, HFI.out, List.drop_zero, HUD.out]
      have hms : ms = E := by rw [HMS.out, HFI.out, List.drop_zero, HED.out]
      subst hus
      subst hms
      have he1 := blk_cell (blk_below HB10.out.1 HB11.out) 1
      have hb64 := HS10.out.1.bounds
      have HL64 := Aside0.mk (show us.length ≤ 64 ∧ ms.length ≤ 64 by have := HUL.out; have := HEL.out; omega)
      have hUa := (Kd.R_reads' (Kd.R_below HU10.out HB11.out)).2
      have hMa := (Kd.R_reads' (Kd.R_below HM10.out HB11.out)).2
      have hUb := (Kd.R_reads' HU.out).2
      have hMb := (Kd.R_reads' HM.out).2
      have HUa := Aside0.mk hUa
      have HMa := Aside0.mk hMa
      have HUb := Aside0.mk hUb
      have HMb := Aside0.mk hMb
      have HEND := Aside0.mk (below_then HS10.out.1.2.2 HS10.out.1.2.2.size HB11.out)
      have hixk : ix + (k : Int) ≤ 64 := by have := HKJ.out; omega
      clear hUa hMa hUb hMb hb64 HU HM HU10 HM10 HS10 HB10 HUS HMS HFI HUD HED
      go_wp2_with (first
        | (go_at_call 43; refine (same_ints A1 c1 B1 d1 us _ HUa.out.2 HUa.out.1 HUb.out.2 HUb.out.1 (by have := HL64.out; omega)).mono ?_; rintro e_ w' ⟨rfl, ⟨n12, rfl⟩⟩)
        | (go_at_call 44; refine (same_entries A2 c2 B2 d2 ms _ (Kd.C_below HMa.out.2 (pw_below_drewN (Below.refl _ _) _)) HMa.out.1 (Kd.C_below HMb.out.2 (pw_below_drewN (Below.refl _ _) _)) HMb.out.1 (by have := HL64.out; omega) HEB.out).mono ?_; rintro e_ w12 ⟨rfl, hb_⟩; have HB12 := Aside0.mk hb_; clear hb_))
      go_ret
      exact ⟨rfl, below_then HEND.out HEND.out.size (below_then (pw_below_drewN (Below.refl _ _) n12) (Nat.le_refl _) HB12.out)⟩

/-- A struct that is an argument. -/
theorem argS {α : Type} {P : Program} {d : Kd α} {t : TypeId} {ok : α → Prop} (hd : Opens.Opens P d t ok) {H : Type} {enc : TypeId × Value → H} {W : World} {base : Nat} {spare : Nat → Bool} {held : Bool} {cs : Array Value} {y : DataW H} {ps : List MemPlace} (h : DataW.Trod enc P W base spare held t (.agg cs) y ps) : ∃ a, d.K W a cs.toList ∧ ok a := by
  obtain ⟨fuel, hf⟩ := h
  exact hd H enc W base spare held fuel _ _ hf
theorem HistAgain_row (A0 : Option Addr) (c0 : Nat) (l0 : List S54) (cs : Array Value) (x : S54) (fr : Int) (w : World) (hC0 : Kd.C k54 w A0 l0.length l0) (hc0 : l0.length ≤ c0) (_hm : l0.length ≤ maxLen) (_ho : ∀ a ∈ l0, True) (hK : k54.K w x cs.toList) (_w2 : (Lit.int .i64 fr).wf = true) :
    Calls Try.prog 10 #[.slice A0 l0.length c0, .agg cs, .int .i64 fr] w fun e w' => e = .returned (.bool true) ∧ Below w.heap.size w w' := by
  obtain ⟨A3, c3, A4, c4, he, h3, hC3, h4, hC4⟩ := k54_open hK
  obtain rfl : cs = #[.bool x.f0, .int .i64 x.f1, .int .i64 x.f2, .slice A3 x.f3.length c3, .slice A4 x.f4.length c4] := by
    rw [← Array.toList_inj]
    exact he
  exact HistAgain_walk A0 c0 l0 x A3 c3 A4 c4 fr w hC0 hc0 h3 hC3 h4 hC4

end Go.Proofs.Ytbomomaidglegaa.Hist
