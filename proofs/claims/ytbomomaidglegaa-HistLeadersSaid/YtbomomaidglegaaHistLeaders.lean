/- HistLeaders: logs that are made of what leaders of rising terms append match. -/
import Derived.Test.YtbomomaidglegaaHistLead0
import Derived.Deep.LoopGhost
import Derived.WalkSpells
namespace Go.Proofs.Ytbomomaidglegaa.Hist
open Go Go.RowKit Go.Proofs.Ytbomomaidglegaa.XHist Go.Proofs.YtbomomaidglegaaW.PrintWords Go.Proofs.YtbomomaidglegaaW.PrintLast Go.Proofs.YtbomomaidglegaaW.PrintMore
set_option linter.unusedVariables false
set_option linter.unusedSimpArgs false

set_option maxHeartbeats 16000000 in
set_option maxRecDepth 100000 in
theorem HistLeaders_walk (A0 : Option Addr) (c0 : Nat) (l0 : List Int) (A1 : Option Addr) (cc1 : Nat) (l1 : List Int) (w : World)
    (hC0 : Kd.C (Kd.int .i64) w A0 l0.length l0) (_hc0 : l0.length ≤ c0) (_hm0 : l0.length ≤ maxLen) (_ho0 : ∀ a ∈ l0, (Lit.int .i64 a).wf = true)
    (hC1 : Kd.C (Kd.int .i64) w A1 l1.length l1) (_hc1 : l1.length ≤ cc1) (_hm1 : l1.length ≤ maxLen) (_ho1 : ∀ a ∈ l1, (Lit.int .i64 a).wf = true) :
    Calls Try.prog 11 #[.slice A0 l0.length c0, .slice A1 l1.length cc1] w fun e w' => e = .returned (.bool true) ∧ Below w.heap.size w w' := by
  have HC0 := Aside0.mk hC0
  have HC1 := Aside0.mk hC1
  have HW0 := Aside0.mk _ho0
  have HW1 := Aside0.mk _ho1
  clear hC0 _hc0 _hm0 _ho0 hC1 _hc1 _hm1 _ho1
  have hu77 := Try.underlying77
  go_enter Try.func11, Try.ntmps11
  go_upto_region 4 with (first
    | (go_at_call 29; refine (known_calls _).mono ?_; rintro e_ w1 ⟨rfl, hb1⟩; have HB1 := Aside0.mk hb1; clear hb1)
    | (go_at_call 31; refine (new_live w 0 (by omega) (by omega) HB3.out).mono ?_; rintro e_ w4 ⟨g2, F2, rfl, hl_, hb_, hf_⟩; have HL2 := Aside0.mk hl_; have HM4 := Aside0.mk hb_; have HF2 := Aside0.mk hf_; clear hl_ hb_ hf_)
    | (go_at_call 31; refine (new_live w 0 (by omega) (by omega) HB2.out).mono ?_; rintro e_ w3 ⟨g1, F1, rfl, hl_, hb_, hf_⟩; have HL1 := Aside0.mk hl_; have HM3 := Aside0.mk hb_; have HF1 := Aside0.mk hf_; have HB3 := Aside0.mk hl_.2.2; clear hl_ hb_ hf_)
    | (go_at_call 31; refine (new_live w 0 (by omega) (by omega) HB1.out).mono ?_; rintro e_ w2 ⟨g0, F0, rfl, hl_, hb_, hf_⟩; have HL0 := Aside0.mk hl_; have HF0 := Aside0.mk hf_; have HB2 := Aside0.mk hl_.2.2; clear hl_ hb_ hf_))
  generalize hw5 : World.alloc w4 _ = w5
  have hb5 : Below w4.heap.size w4 w5 := by rw [← hw5]; exact below_alloc (Below.refl _ _) _
  have hx5 : w5.heap[w4.heap.size]? = some (.cells #[.pointer (some ⟨g0, 0, none⟩), .pointer (some ⟨g1, 0, none⟩), .pointer (some ⟨g2, 0, none⟩)] 50 (0, 0)) := by rw [← hw5]; exact heap_alloc_new _ _
  obtain ⟨L, hL⟩ : ∃ q, w4.heap.size = q := ⟨_, rfl⟩
  rw [hL] at hx5 ⊢
  have h3 := HL1.out.lt
  have h4 := HF2.out
  have h2 := HL0.out.lt
  have h1 := HF1.out
  have h34 := HM4.out.size
  have h23 := HM3.out.size
  have h5 := HL2.out.lt
  obtain ⟨g, hg0, hg1, hg2⟩ : ∃ g : Nat → Nat, g 0 = g0 ∧ g 1 = g1 ∧ g 2 = g2 := ⟨fun j => if j = 0 then g0 else if j = 1 then g1 else g2, rfl, rfl, rfl⟩
  obtain ⟨F, hF0, hF1, hF2⟩ : ∃ F : Nat → Nat → Prop, F 0 = F0 ∧ F 1 = F1 ∧ F 2 = F2 := ⟨fun j => if j = 0 then F0 else if j = 1 then F1 else F2, rfl, rfl, rfl⟩
  have HT5 : Aside0 (Three w w5 g F (fun _ => []) L) := ⟨by
    refine ⟨fun j hj => ?_, fun i j hi hj hij q => ?_, by rw [hg0, hg1, hg2]; exact hx5, fun j hj => ?_⟩
    · rcases (show j = 0 ∨ j = 1 ∨ j = 2 by omega) with rfl | rfl | rfl
      · rw [hg0, hF0]; exact ((HL0.out.below HM3.out).below HM4.out).below hb5
      · rw [hg1, hF1]; exact (HL1.out.below HM4.out).below hb5
      · rw [hg2, hF2]; exact HL2.out.below hb5
    · have a0 := h2 q
      have a1 := h3 q
      have b1 := h1 q
      have b2 := h4 q
      rcases (show i = 0 ∨ i = 1 ∨ i = 2 by omega) with rfl | rfl | rfl <;> rcases (show j = 0 ∨ j = 1 ∨ j = 2 by omega) with rfl | rfl | rfl <;> (first | exact absurd rfl hij | skip) <;> simp only [hF0, hF1, hF2] <;> intro hq hq' <;> (try have a0' := a0 hq) <;> (try have a0' := a0 hq') <;> (try have a1' := a1 hq) <;> (try have a1' := a1 hq') <;> (try have b1' := b1 hq) <;> (try have b1' := b1 hq') <;> (try have b2' := b2 hq) <;> (try have b2' := b2 hq') <;> omega
    · have a0 := h2 L
      have a1 := h3 L
      have a2 := h5 L
      rcases (show j = 0 ∨ j = 1 ∨ j = 2 by omega) with rfl | rfl | rfl <;> simp only [hF0, hF1, hF2] <;> intro hq <;> (try have a0' := a0 hq) <;> (try have a1' := a1 hq) <;> (try have a2' := a2 hq) <;> omega⟩
  have HLD : Aside0 (Lead (fun _ => []) 0) := ⟨⟨fun j hj => ⟨⟨List.Pairwise.nil, by simp⟩, by simp, by simp, by simp⟩, fun i j _ _ => mt_refl _⟩⟩
  clear h1 h2 h3 h4 h5 h34 h23 hw5 hb5 hx5 hL HB1 HB2 HB3 HL0 HL1 HL2 HF0 HF1 HF2 HM3 HM4 hg0 hg1 hg2 hF0 hF1 hF2
  go_wp2
  go_loopw [6, 7] (fun v6 v7 wr => ∃ (i : Nat) (m : Int) (F : Nat → Nat → Prop) (l : Nat → List S105), v6 = .int .i64 m ∧ v7 = .int .i64 (i : Int) ∧ i ≤ 25 ∧ 0 ≤ m ∧ m ≤ 2 * (i : Int) ∧ Aside0 (Three w wr g F l L) ∧ Aside0 (Lead l (i : Int)))
    (fun _ v7 _ => 25 - (intOf v7).toNat)
  case atStart => exact ⟨0, 0, F, _, rfl, rfl, by omega, by omega, by omega, HT5, HLD⟩
  case round =>
    rename World => wo
    obtain ⟨i, m0, F, l, rfl, rfl, hi25, hm0, hm1, HTR, HLR⟩ := hrel
    clear HT5 HLD HW0 HW1
    have HWR := Aside0.mk (HTR.out.1 0 (by omega)).2.2
    have HTO := HTR
    by_cases c1 : (i : Int) < (l0.length : Int)
    · by_cases c2 : (i : Int) < (l1.length : Int)
      · by_cases c3 : (i : Int) < 25
        · have d1 := decide_eq_true c1
          have d2 := decide_eq_true c2
          have d3 := decide_eq_true c3
          have d4 : decide (i < l0.length) = true := decide_eq_true (by omega)
          have d5 : decide (i < l1.length) = true := decide_eq_true (by omega)
          have p0 : 0 ≤ (i : Int) := by omega
          obtain ⟨ad0, rfl, hz0⟩ := Kd.at_int HC0.out (i : Int) p0 c1
          obtain ⟨ad1, rfl, hz1⟩ := Kd.at_int HC1.out (i : Int) p0 c2
          rw [Int.toNat_natCast] at hz0 hz1
          have HI25 := Aside0.mk (show i < 25 by omega)
          replace p0 := eq_true p0
          replace c1 := eq_true c1
          replace c2 := eq_true c2
          clear c3
          obtain ⟨sv, hsv⟩ : ∃ v, rd l0 (i : Int) = v := ⟨_, rfl⟩
          obtain ⟨nv, hnv⟩ : ∃ v, rd l1 (i : Int) = v := ⟨_, rfl⟩
          rw [hsv] at hz0
          rw [hnv] at hz1
          have HZ0 := Aside0.mk hz0
          have HZ1 := Aside0.mk hz1
          have hx0 := pw_cell_below HWR.out hz0
          have hx1 := pw_cell_below HWR.out hz1
          have HX0 := Aside0.mk hx0
          have HX1 := Aside0.mk hx1
          clear hz0 hz1
          go_upto_region 9 with (first
            | (go_at_call 34; refine (within_calls sv 3 _ (by omega) (by omega)).mono ?_; rintro e_ w' ⟨v, rfl, ⟨n_, rfl⟩, hv0, hv1⟩; obtain ⟨p, rfl⟩ := Int.eq_ofNat_of_zero_le hv0; have hp3 : p < 3 := (by omega); have hcp := HTR.out.cell p hp3; have hq1 := eq_true hv0; have hq2 := eq_true hv1; have hq3 := eq_true hp3))
          clear hcp hx0 hx1 hq1 hq2 hq3 hsv hnv
          generalize hws : World.drewN wo _ = wb
          have HTB := Aside0.mk (HTR.out.below (show Below wo.heap.size wo wb by rw [← hws]; exact pw_below_drewN (Below.refl _ _) _))
          have HBB := Aside0.mk (show Below wo.heap.size wo wb by rw [← hws]; exact pw_below_drewN (Below.refl _ _) _)
          clear hws
          go_wp2
          go_loopw [6, 9, 10] (fun v6 v9 v10 ws => ∃ (k : Nat) (m : Int) (Ae : Option Addr) (ce : Nat) (es : List S77), v6 = .int .i64 m ∧ v9 = .slice Ae es.length ce ∧ v10 = .int .i64 (k : Int) ∧ k ≤ 2 ∧ Aside0 (es.length = k) ∧ 0 ≤ m ∧ m ≤ 2 * (i : Int) + (k : Int) ∧ Aside0 (∀ x ∈ es, x.f4 = []) ∧ Aside0 (Kd.R k77 77 ws wo.heap.size (fun _ => True) (.slice Ae es.length ce) es) ∧ Aside0 (Below wo.heap.size wo ws))
            (fun _ _ v10 _ => 3 - (intOf v10).toNat)
          case atStart => exact ⟨0, m0, none, 0, [], rfl, rfl, rfl, by omega, ⟨rfl⟩, hm0, by omega, ⟨by simp⟩, ⟨Kd.R_nil _ _ _ _ _⟩, HBB⟩
          case round =>
            obtain ⟨k, m, Ae, ce, es, rfl, rfl, rfl, hk2, HLE, hme0, hme1, HNIL, HR, HB⟩ := hrel
            have hy1 := pw_cell_below HB.out HX1.out
            have HLE5 := Aside0.mk (show es.length ≤ 5 by have := HLE.out; omega)
            clear hm0 hm1
            go_upto_if 55 with (first
              | (go_at_call 34; refine (within_calls nv 3 _ (by omega) (by omega)).mono ?_; rintro e_ w' ⟨v, rfl, ⟨n_, rfl⟩, hv0, hv1⟩))
            by_cases hkv : (k : Int) < v
            · rw [decide_eq_true hkv]
              generalize hws : World.drewN wr _ = wq
              have hbq : Below wr.heap.size wr wq := by rw [← hws]; exact pw_below_drewN (Below.refl _ _) _
              have HR2 := Aside0.mk (Kd.R_below HR.out hbq)
              have HB2 := Aside0.mk (below_then HB.out HB.out.size hbq)
              have hk1 : k ≤ 1 := by omega
              have hwm : wrap64 (m + 1) = m + 1 := by unfold wrap64; omega
              clear hws hbq hy1 HR HB
              have HR := HR2
              have HB := HB2
              clear HR2 HB2 hv0 hv1 hkv
              go_upto_region 12 with (first
                | ((with_reducible refine gate_builtin (b := .append) (xs := #[.tmp 60, .tmp 63]) rfl ?_); (try (refine gate_guard (by rfl) ?_; dsimp only)); at_builtin; refine Kd.R_append k77 (w0 := wo) wo.heap.size rfl (.tmp 60) (.tmp 63) 52 77 (.agg #[.int .i64 0, .int .i64 0, .int .i64 0, .string ⟨#[]⟩, .slice none 0 0, .int .i64 0]) 72 rfl Try.underlying52 info77f rfl (by decide) (by decide) (.slice Ae es.length ce) es (⟨1, 1, m + 1, ⟨#[]⟩, [], 0⟩ : S77) [.int .i64 1, .int .i64 1, .int .i64 (m + 1), .string ⟨#[]⟩, .slice none 0 0, .int .i64 0] (fun _ => True) (fun _ => False) rfl rfl ?aP (fun _ hk => hk.elim) (fun _ _ => trivial) ?aO ?aB ?aS ?aL ?_; (case aP => exact k77_mkM _ _ _ (⟨1, 1, m + 1, ⟨#[]⟩, [], 0⟩ : S77) (Kd.R_nil _ _ _ _ _)); (case aO => exact HR.out); (case aB => exact HB.out); (case aS => exact HB.out.size); (case aL => have := HLE.out; omega); intro v1 w6 ho_ hb_ hg_ hat_; obtain ⟨Av, cv, rfl⟩ := Kd.R_slice ho_; have HO6 := Aside0.mk ho_; have HB6 := Aside0.mk hb_; clear ho_ hb_ hg_ hat_)
                | go_in)
              have hwk : wrap64 ((k : Int) + 1) = (k : Int) + 1 := by unfold wrap64; omega
              go_wp2
              case roundEnd =>
                refine ⟨⟨k + 1, m + 1, Av, cv, es ++ [(⟨1, 1, m + 1, ⟨#[]⟩, [], 0⟩ : S77)], rfl, by rw [List.length_append]; rfl, by first | rfl | (rw [hwk]; rfl), by omega, ⟨by rw [List.length_append, HLE.out]; rfl⟩, by omega, by omega, ⟨fun x hx => ?_⟩, ⟨HO6.out⟩, HB6⟩, ?_⟩
                · rcases List.mem_append.1 hx with h | h
                  · exact HNIL.out x h
                  · simp only [List.mem_singleton] at h; subst h; rfl
                · simp only [intOf]
                  omega
            · rw [decide_eq_false hkv]
              generalize hws : World.drewN wr _ = wq
              have hbq : Below wr.heap.size wr wq := by rw [← hws]; exact pw_below_drewN (Below.refl _ _) _
              have HR2 := Aside0.mk (Kd.R_below HR.out hbq)
              have HB2 := Aside0.mk (below_then HB.out HB.out.size hbq)
              have HTQ := Aside0.mk (HTR.out.below HB2.out)
              have HWQ := Aside0.mk (HTQ.out.1 0 (by omega)).2.2
              have hle := HLE.out
              subst hle
              clear hws hbq hy1 HR HB HTR HTB HBB HLE hv0 hv1 hkv HX0 HX1
              obtain ⟨x, hx⟩ : ∃ x, (l p).length = x := ⟨_, rfl⟩
              have HLX := Aside0.mk (show (0 : Int) + ((l p).length : Int) = (x : Int) by omega)
              have hx40 : x ≤ 40 := by have := (HLR.out.1 p hp3).2.2.2; omega
              have hwx : wrap64 ((x : Int) + (es.length : Int)) = (x : Int) + (es.length : Int) := by unfold wrap64; omega
              have HXX := Aside0.mk hx
              clear hx
              go_upto_if 70 with (first
                | (go_at_call 35; refine (last_at (B := w.heap.size) (F := F p) (b := 0) (l := l p) (HTQ.out.1 p hp3).1 _ HLX.out).mono ?_; rintro e_ w' ⟨rfl, ⟨n_, rfl⟩⟩))
              by_cases hbig : 40 < (x : Int) + (es.length : Int)
              · rw [decide_eq_true hbig]
                go_wp2
                go_ret
                exact ⟨rfl, pw_below_drewN HWQ.out _⟩
              · rw [decide_eq_false hbig]
                generalize hws : World.drewN wq _ = wd
                have hbq : Below wq.heap.size wq wd := by rw [← hws]; exact pw_below_drewN (Below.refl _ _) _
                have HTD := Aside0.mk (HTQ.out.below hbq)
                have HRD := Aside0.mk (Kd.R_below HR2.out hbq)
                have hwi : wrap64 ((i : Int) + 1) = (i : Int) + 1 := by unfold wrap64; omega
                have HES := Aside0.mk (show ∀ y ∈ es, y.f4.length < 17592186044416 from fun y hy => by rw [HNIL.out y hy]; simp)
                have HFP := Aside0.mk (show ∀ q, F p q → q < wo.heap.size from (HTO.out.1 p hp3).lt)
                have HAP := Aside0.mk (app_lead (t := (i : Int)) (t' := (i : Int) + 1) (es := es) (HLR.out.1 p hp3).1 (HLR.out.1 p hp3).2.1 (by omega) (by omega) (by rw [HXX.out]; omega))
                clear hws hbq HTQ HR2 HB2 HWQ
                go_upto_region 17 with (first
                  | (go_at_call 33; refine (append_live (HTD.out.1 p hp3) ((i : Int) + 1) Ae ce es (stable_of_R HRD.out HFP.out) (Kd.R_reads' HRD.out).2.1 (by omega) HES.out).mono ?_; rintro e_ w7 ⟨F7, rfl, hl_, hF_, hk_⟩; rw [HAP.out]; rw [HAP.out] at hl_; have HL7 := Aside0.mk hl_; have HF7 := Aside0.mk hF_; have HK7 := Aside0.mk hk_; clear hl_ hF_ hk_))
                have hT7 := HTD.out.write p hp3 HL7.out HF7.out HK7.out
                have hL7 := HLR.out.app p hp3 es (show 0 ≤ (i : Int) by omega) (show (i : Int) < (i : Int) + 1 by omega) (by rw [HXX.out]; omega) HNIL.out
                obtain ⟨F8, hF8⟩ : ∃ z, updL F p F7 = z := ⟨_, rfl⟩
                obtain ⟨l8, hl8⟩ : ∃ z, updL l p (l p ++ appL ((i : Int) + 1) es) = z := ⟨_, rfl⟩
                rw [hF8, hl8] at hT7
                rw [hl8] at hL7
                have HT8 := Aside0.mk hT7
                have HL8 := Aside0.mk hL7
                clear hF8 hl8 hT7 hL7 HL7 HF7 HK7 HTD HRD HLX HXX HES HFP HAP hwx HNIL HLR hbig hx40
                have HW8 := Aside0.mk (HT8.out.1 0 (by omega)).2.2
                have hx0 := pw_cell_below HW8.out HZ0.out
                go_upto_region 20 with (first
                  | (go_at_call 34; refine (within_calls _ 3 _ (by omega) (by omega)).mono ?_; rintro e_ w' ⟨v, rfl, ⟨n_, rfl⟩, hv0, hv1⟩; obtain ⟨q, rfl⟩ := Int.eq_ofNat_of_zero_le hv0; have hp4 : q < 3 := (by omega); have hcq := HT8.out.cell q hp4; have hq1 := eq_true hv0; have hq2 := eq_true hv1; have hq3 := eq_true hp4))
                clear hcq hq1 hq2 hq3 hx0
                generalize hws : World.drewN w7 _ = w8
                have HT9 := Aside0.mk (HT8.out.below (show Below w7.heap.size w7 w8 by rw [← hws]; exact pw_below_drewN (Below.refl _ _) _))
                clear hws HT8 HW8
                have HI9 := Aside0.mk (HT9.out.1 p hp3).1
                have HW9 := Aside0.mk (HT9.out.1 0 (by omega)).2.2
                obtain ⟨x, hx⟩ : ∃ x, (l8 p).length = x := ⟨_, rfl⟩
                have HLX := Aside0.mk (show (0 : Int) + ((l8 p).length : Int) = (x : Int) by omega)
                have hx40 : x ≤ 40 := by have := (HL8.out.1 p hp3).2.2.2; omega
                have hwx : wrap64 ((x : Int) + 1) = (x : Int) + 1 := by unfold wrap64; omega
                have HXX := Aside0.mk hx
                clear hx
                have HID := Aside0.mk HI9.out.drew
                have HTD := Aside0.mk (HT9.out.below (show Below w8.heap.size w8 w8.drew from below_drew (Below.refl _ _)))
                have HTC := Aside0.mk (show w8.drew.cell? (ad1.add i) = some (Value.int .i64 nv) from pw_cell_below HW9.out HZ1.out)
                refine start_ (n := 10) (S := fun w' => w'.cell? (ad1.add i) = some (Value.int .i64 nv)) (ds := [8]) #[false, false, false, false, false, false, false, false, false, false] (by kernel_rfl) rfl rfl (HTC.out) (fun hHeld => ?_)
                clear HT9 HI9 HW9
                generalize w8.drew = wd at HTC HID HTD hHeld ⊢
                refine pure_ (i := 0) (N := some 90) (v := ?_) (a' := ?_) #[true, false, false, false, false, false, false, false, false, false] rfl rfl (by kernel_rfl) (fun _ _ _ h => h) (Or.inl ⟨by rfl, ?_⟩) ?_ ?_
                rotate_left
                · intro w'
                  go_simp
                  with_reducible rfl
                rotate_left
                · simp only [Act.put, List.setIfInBounds_toArray, List.set_cons_zero, List.set_cons_succ, i64_w, i32_w]
                  rfl
                refine pure_ (i := 1) (N := some 91) (v := ?_) (a' := ?_) #[true, true, false, false, false, false, false, false, false, false] rfl rfl (by kernel_rfl) (fun _ _ _ h => h) (Or.inl ⟨by rfl, ?_⟩) ?_ ?_
                rotate_left
                · intro w'
                  go_simp
                  with_reducible rfl
                rotate_left
                · simp only [Act.put, List.setIfInBounds_toArray, List.set_cons_zero, List.set_cons_succ, i64_w, i32_w]
                  rfl
                refine pure_ (i := 2) (N := some 92) (v := ?_) (a' := ?_) #[true, true, true, false, false, false, false, false, false, false] rfl rfl (by kernel_rfl) (fun _ _ _ h => h) (Or.inl ⟨by rfl, ?_⟩) ?_ ?_
                rotate_left
                · intro w'
                  go_simp
                  with_reducible rfl
                rotate_left
                · simp only [Act.put, List.setIfInBounds_toArray, List.set_cons_zero, List.set_cons_succ, i64_w, i32_w]
                  rfl
                refine pure_ (i := 5) (N := some 95) (v := ?_) (a' := ?_) #[true, true, true, false, false, true, false, false, false, false] rfl rfl (by kernel_rfl) (fun _ _ _ h => h) (Or.inl ⟨by rfl, ?_⟩) ?_ ?_
                rotate_left
                · intro w'
                  go_simp
                  with_reducible rfl
                rotate_left
                · simp only [Act.put, List.setIfInBounds_toArray, List.set_cons_zero, List.set_cons_succ, i64_w, i32_w]
                  rfl
                refine take_ (i := 3) (N := some 93) (v := ?_) (a' := ?_) #[true, true, true, true, false, true, false, false, false, false] rfl rfl (by kernel_rfl) (fun _ _ _ h => h) (Or.inl ⟨by rfl, ?_⟩) hHeld ?_ ?_
                rotate_left
                · intro w' s0
                  go_simp
                  with_reducible rfl
                rotate_left
                · simp only [Act.put, List.setIfInBounds_toArray, List.set_cons_zero, List.set_cons_succ, i64_w, i32_w]
                  rfl
                refine pure_ (i := 4) (N := some 94) (v := ?_) (a' := ?_) #[true, true, true, true, true, true, false, false, false, false] rfl rfl (by kernel_rfl) (fun _ _ _ h => h) (Or.inl ⟨by rfl, ?_⟩) ?_ ?_
                rotate_left
                · intro w'
                  go_simp
                  with_reducible rfl
                rotate_left
                · simp only [Act.put, List.setIfInBounds_toArray, List.set_cons_zero, List.set_cons_succ, i64_w, i32_w]
                  rfl
                refine one_ (i := 6) (N := some 96) #[true, true, true, true, true, true, true, false, false, false] rfl rfl (by kernel_rfl) (by decide) (fun K hK => ?_)
                refine goes_ Try.func35 (by kernel_rfl) rfl #[.pointer (some ⟨g p, 0, none⟩)] (by rfl) rfl rfl (by simp only [List.map_toArray, List.map_cons, List.map_nil]; rfl) ?_
                with_reducible refine (last_at (B := w.heap.size) (F := F8 p) (b := 0) (l := l8 p) HID.out _ HLX.out).mono ?_
                rintro e_ w' ⟨rfl, n3, rfl⟩
                refine ⟨_, rfl, ?_⟩
                refine hK.out _ _ (pw_cell_below (pw_below_drewN (Below.refl _ _) _) hHeld) (fun hHeld => ?_)
                clear hK K
                refine norm_ (a' := ?_) ?_ ?_
                rotate_left
                · show Act.put _ (some 96) _ = _
                  simp only [Act.put, List.setIfInBounds_toArray, List.set_cons_zero, List.set_cons_succ, i64_w, i32_w]
                  rfl
                refine pure_ (i := 7) (N := some 97) (v := ?_) (a' := ?_) #[true, true, true, true, true, true, true, true, false, false] rfl rfl (by kernel_rfl) (fun _ _ _ h => h) (Or.inl ⟨by rfl, ?_⟩) ?_ ?_
                rotate_left
                · intro w'
                  go_simp
                  with_reducible rfl
                rotate_left
                · simp only [Act.put, List.setIfInBounds_toArray, List.set_cons_zero, List.set_cons_succ, i64_w, i32_w]
                  rfl
                refine last_ (i := 8) (N := some 98) #[true, true, true, true, true, true, true, true, true, false] rfl rfl (by kernel_rfl) (by decide) (fun K hK => ?_)
                refine goes_ Try.func34 (by kernel_rfl) rfl #[.int .i64 (wrap64 (nv.tdiv 3)), .int .i64 (wrap64 ((x : Int) + 1))] (by rfl) rfl rfl (by simp only [List.map_toArray, List.map_cons, List.map_nil]; rfl) ?_
                with_reducible refine (within_calls _ (wrap64 ((x : Int) + 1)) _ (by rw [hwx]; omega) (by rw [hwx]; omega)).mono ?_
                rintro e_ w' ⟨v, rfl, ⟨n5, rfl⟩, hv0, hv1⟩
                refine ⟨_, rfl, ?_⟩
                refine hK.out _ _ ?_
                clear hK K
                refine norm_ (a' := ?_) ?_ ?_
                rotate_left
                · show Act.put _ (some 98) _ = _
                  simp only [Act.put, List.setIfInBounds_toArray, List.set_cons_zero, List.set_cons_succ, i64_w, i32_w]
                  rfl
                refine pure_ (i := 9) (N := some 14) (v := ?_) (a' := ?_) #[true, true, true, true, true, true, true, true, true, true] rfl rfl (by kernel_rfl) (fun _ _ _ h => h) (Or.inl ⟨by rfl, ?_⟩) ?_ ?_
                rotate_left
                · intro w'
                  go_simp
                  with_reducible rfl
                rotate_left
                · simp only [Act.put, List.setIfInBounds_toArray, List.set_cons_zero, List.set_cons_succ, i64_w, i32_w]
                  rfl
                refine done_ (by kernel_rfl) ?_
                clear HTC HID hHeld
                generalize hws : World.drewN (World.drewN wd _) _ = we
                have HTX := Aside0.mk (HTD.out.below (show Below wd.heap.size wd we by rw [← hws]; exact pw_below_drewN (pw_below_drewN (Below.refl _ _) _) _))
                clear hws HTD
                rw [hwx] at hv1
                obtain ⟨fr, rfl⟩ := Int.eq_ofNat_of_zero_le hv0
                have hfx : fr ≤ x := by omega
                have hwf : wrap64 ((fr : Int) + 1) = (fr : Int) + 1 := by unfold wrap64; omega
                have HIE := Aside0.mk (HTX.out.1 p hp3).1
                have HMM := Aside0.mk (show ∀ y ∈ l8 p, y.f1.f4.length < 17592186044416 from fun y hy => by rw [(HL8.out.1 p hp3).2.2.1 y hy]; simp)
                have HFL := Aside0.mk (show ∀ z, F8 q z → z < we.heap.size from (HTX.out.1 q hp4).lt)
                obtain ⟨tq, htq⟩ : ∃ z, tm 0 (l8 p) (fr : Int) = z := ⟨_, rfl⟩
                have HTQ := Aside0.mk htq
                clear hv0 hv1 htq hwx HZ0
                go_upto_region 22 with (first
                  | (go_at_call 42; refine (from_calls (B := w.heap.size) (F := F8 p) (b := 0) (l := l8 p) HIE.out HMM.out ((fr : Int) + 1) (by omega) (by omega)).mono ?_; rintro e_ wf ⟨B1, d1, B2, d2, us, ms, rfl, hu_, hm_, hb_, hus, hms⟩; have HU := Aside0.mk hu_; have HM := Aside0.mk hm_; have HTF := Aside0.mk (HTX.out.below hb_); have HUS := Aside0.mk hus; have HMS := Aside0.mk hms; clear hu_ hm_ hb_ hus hms))
                have hfi : fromIx 0 (l8 p) ((fr : Int) + 1) = fr := by unfold fromIx; rw [if_pos (by omega), HXX.out]; omega
                have HUS2 := Aside0.mk (show us = ((l8 p).drop fr).map (·.f0) by rw [HUS.out, hfi])
                have HMS2 := Aside0.mk (show ms = ((l8 p).drop fr).map (·.f1) by rw [HMS.out, hfi])
                have HUL := Aside0.mk (show us.length < 1000000 by rw [HUS2.out, List.length_map, List.length_drop, HXX.out]; omega)
                have HML := Aside0.mk (show ms.length < 1000000 by rw [HMS2.out, List.length_map, List.length_drop, HXX.out]; omega)
                have HMN := Aside0.mk (show ∀ y ∈ ms, y.f4.length < 17592186044416 from fun y hy => by rw [HMS2.out] at hy; obtain ⟨z, hz, rfl⟩ := List.mem_map.1 hy; exact HMM.out z (List.mem_of_mem_drop hz))
                have HPT := Aside0.mk (put_tail (a := l8 p) (b := l8 q) (n := fr) (by rw [HXX.out]; exact hfx) (HL8.out.1 p hp3).1.2 (HL8.out.2 p q hp3 hp4))
                clear hfi HUS HMS
                go_upto_region 23 with (first
                  | (go_at_call 36; refine (termb_at (B := w.heap.size) (F := F8 p) (b := 0) (l := l8 p) (HTF.out.1 p hp3).1 _ tq HTQ.out).mono ?_; rintro e_ w' ⟨rfl, ⟨nt, rfl⟩⟩)
                  | (go_at_call 32; refine (put_live ((HTF.out.1 q hp4).drewN _) (fr : Int) tq B1 d1 us B2 d2 ms (stable_of_R (Kd.R_below HU.out (pw_below_drewN (Below.refl _ _) _)) HFL.out) (Kd.R_reads' HU.out).2.1 HUL.out (stable_of_R (Kd.R_below HM.out (pw_below_drewN (Below.refl _ _) _)) HFL.out) (Kd.R_reads' HM.out).2.1 HML.out HMN.out).mono ?_; rintro e_ wp ⟨Fq, rfl, hl_, hF_, hk_⟩; have hT_ := (HTF.out.below (pw_below_drewN (Below.refl _ _) _)).write q hp4 hl_ hF_ hk_; rw [← HTQ.out] at hT_; have HTP := Aside0.mk hT_; clear hl_ hF_ hk_ hT_))
                have hLP := HL8.out.put p q hp3 hp4 (c := (putF 0 (l8 q) (fr : Int) (tm 0 (l8 p) (fr : Int)) us ms).2.2) (by rw [HUS2.out, HMS2.out]; exact HPT.out)
                have hTP := HTP.out
                obtain ⟨F9, hF9⟩ : ∃ z, updL F8 q Fq = z := ⟨_, rfl⟩
                obtain ⟨l9, hl9⟩ : ∃ z, updL l8 q (putF 0 (l8 q) (fr : Int) (tm 0 (l8 p) (fr : Int)) us ms).2.2 = z := ⟨_, rfl⟩
                rw [hF9, hl9] at hTP
                rw [hl9] at hLP
                have HT9 := Aside0.mk hTP
                have HL9 := Aside0.mk hLP
                clear hF9 hl9 hTP hLP HTP HPT HU HM HTF HUS2 HMS2 HUL HML HMN HMM HFL HTQ HIE HTX HL8 HXX HLX
                go_wp2
                go_loopw [17] (fun v17 wr => ∃ (pp : Nat), v17 = .int .i64 (pp : Int) ∧ pp ≤ 3 ∧ Aside0 (Three w wr g F9 l9 L))
                  (fun v17 _ => 3 - (intOf v17).toNat)
                case atStart => exact ⟨0, rfl, by omega, HT9⟩
                case round =>
                  obtain ⟨pp, rfl, hpp3, HTP⟩ := hrel
                  clear HT9
                  by_cases hpp : pp < 3
                  · have z1 := eq_true (show (pp : Int) < 3 by omega)
                    have z2 := decide_eq_true (show (pp : Int) < 3 by omega)
                    have z3 := decide_eq_true hpp
                    go_wp2
                    go_loopw [18] (fun v18 wr => ∃ (qq : Nat), v18 = .int .i64 (qq : Int) ∧ qq ≤ pp ∧ Aside0 (Three w wr g F9 l9 L))
                      (fun v18 _ => pp - (intOf v18).toNat)
                    case atStart => exact ⟨0, rfl, by omega, HTP⟩
                    case round =>
                      obtain ⟨qq, rfl, hqp, HTS⟩ := hrel
                      clear HTP
                      by_cases hq : qq < pp
                      · have y1 := eq_true (show (qq : Int) < (pp : Int) by omega)
                        have y2 := decide_eq_true (show (qq : Int) < (pp : Int) by omega)
                        have y3 := decide_eq_true hq
                        have hqq : qq < 3 := by omega
                        go_upto_region 29 with (fail)
                        have HTE := Aside0.mk (HTS.out.below (show Below wr.heap.size wr wr.drew from below_drew (Below.refl _ _)))
                        have hi1 := eq_true (show 0 ≤ (pp : Int) by omega)
                        have hi2 := eq_true (show (pp : Int) < 3 by omega)
                        have hi3 := eq_true hpp
                        have hi4 := eq_true (show 0 ≤ (qq : Int) by omega)
                        have hi5 := eq_true (show (qq : Int) < 3 by omega)
                        have hi6 := eq_true hqq
                        refine start_ (n := 10) (S := fun w' => w'.cell? ⟨L, pp, none⟩ = some (Value.pointer (some ⟨g pp, 0, none⟩)) ∧ w'.cell? ⟨L, qq, none⟩ = some (Value.pointer (some ⟨g qq, 0, none⟩))) (ds := [8]) #[false, false, false, false, false, false, false, false, false, false] (by kernel_rfl) rfl rfl ⟨HTE.out.cell pp hpp, HTE.out.cell qq hqq⟩ (fun hHeld => ?_)
                        generalize wr.drew = wd at HTE hHeld ⊢
                        have HMC := Aside0.mk (match_calls (HTE.out.1 pp hpp).1 (HTE.out.1 qq hqq).1 (HL9.out.2 pp qq hpp hqq) (HL9.out.1 pp hpp).2.2.1 (HL9.out.1 qq hqq).2.2.1)
                        refine pure_ (i := 0) (N := some 123) (v := ?_) (a' := ?_) #[true, false, false, false, false, false, false, false, false, false] rfl rfl (by kernel_rfl) (fun _ _ _ h => h) (Or.inl ⟨by rfl, ?_⟩) ?_ ?_
                        rotate_left
                        · intro w'
                          go_simp
                          with_reducible rfl
                        rotate_left
                        · simp only [Act.put, List.setIfInBounds_toArray, List.set_cons_zero, List.set_cons_succ, i64_w, i32_w]
                          rfl
                        refine pure_ (i := 1) (N := some 124) (v := ?_) (a' := ?_) #[true, true, false, false, false, false, false, false, false, false] rfl rfl (by kernel_rfl) (fun _ _ _ h => h) (Or.inl ⟨by rfl, ?_⟩) ?_ ?_
                        rotate_left
                        · intro w'
                          go_simp
                          with_reducible rfl
                        rotate_left
                        · simp only [Act.put, List.setIfInBounds_toArray, List.set_cons_zero, List.set_cons_succ, i64_w, i32_w]
                          rfl
                        refine pure_ (i := 2) (N := some 125) (v := ?_) (a' := ?_) #[true, true, true, false, false, false, false, false, false, false] rfl rfl (by kernel_rfl) (fun _ _ _ h => h) (Or.inl ⟨by rfl, ?_⟩) ?_ ?_
                        rotate_left
                        · intro w'
                          go_simp
                          with_reducible rfl
                        rotate_left
                        · simp only [Act.put, List.setIfInBounds_toArray, List.set_cons_zero, List.set_cons_succ, i64_w, i32_w]
                          rfl
                        refine pure_ (i := 4) (N := some 127) (v := ?_) (a' := ?_) #[true, true, true, false, true, false, false, false, false, false] rfl rfl (by kernel_rfl) (fun _ _ _ h => h) (Or.inl ⟨by rfl, ?_⟩) ?_ ?_
                        rotate_left
                        · intro w'
                          go_simp
                          with_reducible rfl
                        rotate_left
                        · simp only [Act.put, List.setIfInBounds_toArray, List.set_cons_zero, List.set_cons_succ, i64_w, i32_w]
                          rfl
                        refine pure_ (i := 5) (N := some 128) (v := ?_) (a' := ?_) #[true, true, true, false, true, true, false, false, false, false] rfl rfl (by kernel_rfl) (fun _ _ _ h => h) (Or.inl ⟨by rfl, ?_⟩) ?_ ?_
                        rotate_left
                        · intro w'
                          go_simp
                          with_reducible rfl
                        rotate_left
                        · simp only [Act.put, List.setIfInBounds_toArray, List.set_cons_zero, List.set_cons_succ, i64_w, i32_w]
                          rfl
                        refine pure_ (i := 6) (N := some 129) (v := ?_) (a' := ?_) #[true, true, true, false, true, true, true, false, false, false] rfl rfl (by kernel_rfl) (fun _ _ _ h => h) (Or.inl ⟨by rfl, ?_⟩) ?_ ?_
                        rotate_left
                        · intro w'
                          go_simp
                          with_reducible rfl
                        rotate_left
                        · simp only [Act.put, List.setIfInBounds_toArray, List.set_cons_zero, List.set_cons_succ, i64_w, i32_w]
                          rfl
                        refine take_ (i := 3) (N := some 126) (v := ?_) (a' := ?_) #[true, true, true, true, true, true, true, false, false, false] rfl rfl (by kernel_rfl) (fun _ _ _ h => h) (Or.inl ⟨by rfl, ?_⟩) hHeld ?_ ?_
                        rotate_left
                        · rintro w' ⟨s0, s1⟩
                          go_simp
                          with_reducible rfl
                        rotate_left
                        · simp only [Act.put, List.setIfInBounds_toArray, List.set_cons_zero, List.set_cons_succ, i64_w, i32_w]
                          rfl
                        refine take_ (i := 7) (N := some 130) (v := ?_) (a' := ?_) #[true, true, true, true, true, true, true, true, false, false] rfl rfl (by kernel_rfl) (fun _ _ _ h => h) (Or.inl ⟨by rfl, ?_⟩) hHeld ?_ ?_
                        rotate_left
                        · rintro w' ⟨s0, s1⟩
                          go_simp
                          with_reducible rfl
                        rotate_left
                        · simp only [Act.put, List.setIfInBounds_toArray, List.set_cons_zero, List.set_cons_succ, i64_w, i32_w]
                          rfl
                        refine last_ (i := 8) (N := some 131) #[true, true, true, true, true, true, true, true, true, false] rfl rfl (by kernel_rfl) (by decide) (fun K hK => ?_)
                        refine goes_ Try.func45 (by kernel_rfl) rfl #[.pointer (some ⟨g pp, 0, none⟩), .pointer (some ⟨g qq, 0, none⟩)] (by rfl) rfl rfl (by simp only [List.map_toArray, List.map_cons, List.map_nil]; rfl) ?_
                        with_reducible refine (HMC.out).mono ?_
                        rintro e_ wm ⟨rfl, hbm⟩
                        refine ⟨_, rfl, ?_⟩
                        refine hK.out _ _ ?_
                        clear hK K
                        refine norm_ (a' := ?_) ?_ ?_
                        rotate_left
                        · show Act.put _ (some 131) _ = _
                          simp only [Act.put, List.setIfInBounds_toArray, List.set_cons_zero, List.set_cons_succ, i64_w, i32_w]
                          rfl
                        refine pure_ (i := 9) (N := some 132) (v := ?_) (a' := ?_) #[true, true, true, true, true, true, true, true, true, true] rfl rfl (by kernel_rfl) (fun _ _ _ h => h) (Or.inl ⟨by rfl, ?_⟩) ?_ ?_
                        rotate_left
                        · intro w'
                          go_simp
                          with_reducible rfl
                        rotate_left
                        · simp only [Act.put, List.setIfInBounds_toArray, List.set_cons_zero, List.set_cons_succ, i64_w, i32_w]
                          rfl
                        refine done_ (by kernel_rfl) ?_
                        have HT10 := Aside0.mk (HTE.out.below hbm)
                        clear HTE HTS hbm hi1 hi2 hi3 hi4 hi5 hi6 y1 y2 y3
                        go_wp2
                        case roundEnd =>
                          refine ⟨⟨qq + 1, rfl, by omega, HT10⟩, ?_⟩
                          simp only [intOf]
                          omega
                      · have y1 := eq_false (show ¬ (qq : Int) < (pp : Int) by omega)
                        have y2 := decide_eq_false (show ¬ (qq : Int) < (pp : Int) by omega)
                        have y3 := decide_eq_false hq
                        go_wp2
                        case roundEnd =>
                          refine ⟨⟨pp + 1, rfl, by omega, HTS⟩, ?_⟩
                          simp only [intOf]
                          omega
                  · have z1 := eq_false (show ¬ (pp : Int) < 3 by omega)
                    have z2 := decide_eq_false (show ¬ (pp : Int) < 3 by omega)
                    have z3 := decide_eq_false hpp
                    go_wp2
                    case roundEnd =>
                      refine ⟨⟨i + 1, m, F9, l9, rfl, by first | rfl | (rw [hwi]; rfl), by have := HI25.out; omega, hme0, ?_, HTP, HL9⟩, ?_⟩
                      · omega
                      · have := HI25.out
                        simp only [intOf]
                        omega
        · have d1 := decide_eq_true c1
          have d2 := decide_eq_true c2
          have d3 := decide_eq_false c3
          go_wp2
          go_ret
          exact ⟨rfl, HWR.out⟩
      · have d1 := decide_eq_true c1
        have d2 := decide_eq_false c2
        go_wp2
        go_ret
        exact ⟨rfl, HWR.out⟩
    · have d1 := decide_eq_false c1
      go_wp2
      go_ret
      exact ⟨rfl, HWR.out⟩
end Go.Proofs.Ytbomomaidglegaa.Hist
